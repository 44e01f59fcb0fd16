/- Part 5 of the proof: P8 .. Fn_rational_Mid. -/
import Derived.Test.YteciehfkhmbfeaaGreatSd
import Derived.Test.YteciehfkhmbfeaaGreatSb
import Derived.RangeFuncIn
import Derived.RangeFuncRecord
import Derived.Test.YteciehfkhmbfeaaGreatSc
namespace Go.Am.X
structure Mn where
  e0 : Nat
  e1 : Nat
  e2 : Nat
  e3 : Nat
deriving DecidableEq
structure Tm where
  c : Int
  m : Mn
deriving DecidableEq
def Mn.enc (m : Mn) : qa7 := ⟨m.e0, m.e1, m.e2, m.e3⟩
def Tm.enc (t : Tm) : qaM := ⟨mkI t.c, t.m.enc⟩
def Mn.ev (ρ : Nat → Rat) (m : Mn) : Rat := ρ 1 ^ m.e0 * ρ 2 ^ m.e1 * ρ 3 ^ m.e2 * ρ 4 ^ m.e3
def Tm.ev (ρ : Nat → Rat) (t : Tm) : Rat := (t.c : Rat) * t.m.ev ρ
def sumT (ρ : Nat → Rat) : List Tm → Rat
  | [] => 0
  | t :: l => t.ev ρ + sumT ρ l
def sumA : List Tm → Nat
  | [] => 0
  | t :: l => t.c.natAbs + sumA l
theorem zgT (ρ : Nat → Rat) : ∀ a b : List Tm, sumT ρ (a ++ b) = sumT ρ a + sumT ρ b
  | [], b => by rw [List.nil_append, sumT]; grind
  | t :: a, b => by rw [List.cons_append, sumT, sumT, zgT]; grind
theorem zsU (ρ : Nat → Rat) {a b : List Tm} (h : a.Perm b) : sumT ρ a = sumT ρ b := by
  induction h with
  | nil => rfl
  | cons x _ ih => rw [sumT, sumT, ih]
  | swap x y l => simp only [sumT]; grind
  | trans _ _ h1 h2 => rw [h1, h2]
theorem zn1 {a b : List Tm} (h : a.Perm b) : sumA a = sumA b := by
  induction h with
  | nil => rfl
  | cons x _ ih => rw [sumA, sumA, ih]
  | swap x y l => simp only [sumA]; omega
  | trans _ _ h1 h2 => rw [h1, h2]
theorem zqR : ∀ {l : List Tm} {t : Tm}, t ∈ l → t.c.natAbs ≤ sumA l
  | a :: l, t, h => by
    rw [sumA]
    rcases List.mem_cons.1 h with rfl | h
    · omega
    · have := zqR h; omega
def decT (t : qaM) : Tm := ⟨ival t.Coef, t.Exp.e0.toNat, t.Exp.e1.toNat, t.Exp.e2.toNat, t.Exp.e3.toNat⟩
theorem zrD (t : Tm) : decT t.enc = t := by
  cases t with
  | mk c m => cases m; simp [decT, Tm.enc, Mn.enc, qdQ]
theorem zu6 {r : List qaM} {l : List Tm} (h : r.Perm (l.map Tm.enc)) : ∃ l' : List Tm, l'.Perm l ∧ r = l'.map Tm.enc := by
  refine ⟨r.map decT, ?_, ?_⟩
  · have := h.map decT
    rw [List.map_map, show decT ∘ Tm.enc = id from funext zrD, List.map_id] at this
    exact this
  · rw [List.map_map]
    conv => lhs; rw [← List.map_id r]
    refine List.map_congr_left fun x hx => ?_
    obtain ⟨t, _, rfl⟩ := List.mem_map.1 (h.mem_iff.1 hx)
    show t.enc = (decT t.enc).enc
    rw [zrD]
def runT (m : Mn) (s : Int) : List Tm → Int × List Tm
  | [] => (s, [])
  | t :: l => if t.m = m then runT m (s + t.c) l else (s, t :: l)
theorem qxF (m : Mn) : ∀ (l : List Tm) (s : Int), (runT m s l).2.length ≤ l.length
  | [], _ => Nat.le_refl _
  | t :: l, s => by
    rw [runT]
    split
    · have := qxF m l (s + t.c); simp only [List.length_cons]; omega
    · exact Nat.le_refl _
def qqR : List Tm → List Tm
  | [] => []
  | t :: l => if (runT t.m t.c l).1 = 0 then qqR (runT t.m t.c l).2 else ⟨(runT t.m t.c l).1, t.m⟩ :: qqR (runT t.m t.c l).2
termination_by l => l.length
decreasing_by all_goals (have := qxF t.m l t.c; simp only [List.length_cons]; omega)
theorem zgF (m : Mn) : ∀ (l : List Tm) (s : Int), (runT m s l).2 <:+ l
  | [], _ => List.suffix_refl _
  | t :: l, s => by
    rw [runT]
    split
    · exact (zgF m l _).trans (List.suffix_cons t l)
    · exact List.suffix_refl _
theorem zs3 (ρ : Nat → Rat) (m : Mn) : ∀ (l : List Tm) (s : Int), ((runT m s l).1 : Rat) * m.ev ρ + sumT ρ (runT m s l).2 = (s : Rat) * m.ev ρ + sumT ρ l
  | [], s => rfl
  | t :: l, s => by
    rw [runT]
    split
    · rename_i h
      rw [zs3 ρ m l, sumT, Tm.ev, h, Rat.intCast_add]; grind
    · rfl
theorem zgG (m : Mn) : ∀ (l : List Tm) (s : Int), (runT m s l).1.natAbs + sumA (runT m s l).2 ≤ s.natAbs + sumA l
  | [], s => Nat.le_refl _
  | t :: l, s => by
    rw [runT]
    split
    · have := zgG m l (s + t.c)
      rw [sumA]; omega
    · exact Nat.le_refl _
theorem zoP (ρ : Nat → Rat) (l : List Tm) : sumT ρ (qqR l) = sumT ρ l := by
  match l with
  | [] => rw [qqR]
  | t :: l =>
    have h := zs3 ρ t.m l t.c
    have hl := qxF t.m l t.c
    have ih := zoP ρ (runT t.m t.c l).2
    rw [qqR]
    split
    · rename_i h0
      rw [h0] at h
      rw [ih, sumT, Tm.ev, ← h]
      simp only [Rat.intCast_zero, Rat.zero_mul, Rat.zero_add]
    · rw [sumT, ih, sumT, Tm.ev, Tm.ev, ← h]
termination_by l.length
theorem zl9 (l : List Tm) : sumA (qqR l) ≤ sumA l := by
  match l with
  | [] => rw [qqR]; exact Nat.le_refl _
  | t :: l =>
    have h := zgG t.m l t.c
    have hl := qxF t.m l t.c
    have ih := zl9 (runT t.m t.c l).2
    rw [qqR]
    split
    · rw [sumA]; omega
    · rw [sumA, sumA]; show (runT t.m t.c l).1.natAbs + _ ≤ _; omega
termination_by l.length
theorem zl8 (l : List Tm) : (qqR l).length ≤ l.length := by
  match l with
  | [] => rw [qqR]; exact Nat.le_refl _
  | t :: l =>
    have hl := qxF t.m l t.c
    have ih := zl8 (runT t.m t.c l).2
    rw [qqR]
    split
    · simp only [List.length_cons]; omega
    · simp only [List.length_cons]; omega
termination_by l.length
theorem zl7 (l : List Tm) : ∀ t ∈ qqR l, t.c ≠ 0 ∧ ∃ s ∈ l, s.m = t.m := by
  match l with
  | [] => rw [qqR]; intro t h; cases h
  | a :: l =>
    have hl := qxF a.m l a.c
    have hs := zgF a.m l a.c
    have ih := zl7 (runT a.m a.c l).2
    intro t h
    rw [qqR] at h
    split at h
    · obtain ⟨h1, s, h2, h3⟩ := ih t h
      exact ⟨h1, s, List.mem_cons_of_mem _ (hs.subset h2), h3⟩
    · rename_i h0
      rcases List.mem_cons.1 h with rfl | h
      · exact ⟨h0, a, by simp, rfl⟩
      · obtain ⟨h1, s, h2, h3⟩ := ih t h
        exact ⟨h1, s, List.mem_cons_of_mem _ (hs.subset h2), h3⟩
termination_by l.length
theorem q8D (a b c d : Int) : Ev (fun K => qi9 K [a, b, c, d]) (min (min (min a b) c) d) := by
  have w1 : wI6 ((1 : Int) + 1) = 2 := by decide
  have w2 : wI6 ((2 : Int) + 1) = 3 := by decide
  have w3 : wI6 ((3 : Int) + 1) = 4 := by decide
  refine qaW ?_
  simp only [qi9, qcU]
  refine ev_f (by simp) (qb8 (x := a) rfl ?_)
  refine qaW ?_
  simp only [qcU, w1]
  refine ev_t (by simp) (qb8 (x := b) rfl ?_)
  refine qaW ?_
  simp only [qcU, w2]
  refine ev_t (by simp) (qb8 (x := c) rfl ?_)
  refine qaW ?_
  simp only [qcU, w3]
  refine ev_t (by simp) (qb8 (x := d) rfl ?_)
  refine qaW ?_
  simp only [qcU]
  exact ev_f (by simp) (qa6 _)
theorem zqB (s : List qaM) : Ev (fun K => qd1 K s) s := by
  refine qaW ?_
  simp only [qd1, qdL]
  refine qgA (by omega) (qe4 (qa6 _) ?_)
  rw [Int.toNat_natCast, List.take_length]
theorem zxG (a b : Mn) : (decide (a.enc.e0 = b.enc.e0) && (decide (a.enc.e1 = b.enc.e1) && (decide (a.enc.e2 = b.enc.e2) && decide (a.enc.e3 = b.enc.e3)))) = decide (a = b) := by
  rw [Bool.eq_iff_iff]
  cases a; cases b
  simp only [Mn.enc, Bool.and_eq_true, decide_eq_true_eq, Mn.mk.injEq, Int.ofNat_inj]
theorem zl3 {l rest : List Tm} {t : Tm} (h : (t :: rest) <:+ l) : gi (l.map Tm.enc) ((l.length - (t :: rest).length : Nat) : Int) = some t.enc := by
  obtain ⟨pre, rfl⟩ := h
  refine zaF ?_
  rw [List.length_append, Nat.add_sub_cancel, List.getElem?_map, List.getElem?_append_right (Nat.le_refl _), Nat.sub_self]
  rfl
theorem zgD {l rest : List Tm} {t : Tm} (h : (t :: rest) <:+ l) : rest <:+ l := (List.suffix_cons t rest).trans h
theorem zqS {l rest : List Tm} {t : Tm} (h : (t :: rest) <:+ l) (hl : l.length ≤ 1000000000) : wI6 (((l.length - (t :: rest).length : Nat) : Int) + 1) = ((l.length - rest.length : Nat) : Int) := by
  have := h.length_le
  simp only [List.length_cons] at this ⊢
  rw [qdF (by omega)]; omega
theorem zq1 {l : List Tm} {m : Mn} {n : Nat} (hn : n ≤ 1000000) (hl : l.length ≤ 1000000000) (r68 : List qaM) {r : List qaM} : ∀ (rest : List Tm) (s : Int), rest <:+ l → ((s.natAbs + sumA rest : Nat) : Int) < 4294967296 ^ n →
    Ev (fun K => qaY K (.c11 ⟨mkI (runT m s rest).1, m.enc⟩ (l.map Tm.enc) r68 ((l.length - (runT m s rest).2.length : Nat) : Int))) r →
    Ev (fun K => qaY K (.c10 ⟨mkI s, m.enc⟩ (l.map Tm.enc) r68 ((l.length - rest.length : Nat) : Int))) r
  | [], s, hs, hb, h => by
    refine qaW ?_
    simp only [qaY]
    refine ev_f (by simp) h
  | t :: rest, s, hs, hb, h => by
    have hlen := hs.length_le
    simp only [List.length_cons] at hlen
    refine qaW ?_
    simp only [qaY]
    refine ev_t (by simp; omega) (qb8 (zl3 hs) ?_)
    simp only [zqS hs hl]
    have he := zxG t.m m
    rw [sumA] at hb
    rw [runT] at h
    by_cases e : t.m = m
    · rw [if_pos e] at h
      rw [decide_eq_true e] at he
      refine ev_t he (qb8 (zl3 hs) ?_)
      have sa := qrL (c := s) (n := n) (by omega) hn
      have sb := qrL (c := t.c) (n := n) (by omega) hn
      have h1 := quA sa.1 sb.1 (by have := sa.2; omega) (by have := sb.2; omega)
      rw [qdQ, qdQ] at h1
      exact qaR h1 (zq1 hn hl r68 rest (s + t.c) (zgD hs) (by omega) h)
    · rw [if_neg e] at h
      rw [decide_eq_false e] at he
      exact ev_f he h
theorem zpV {l : List Tm} {n : Nat} (hn : n ≤ 1000000) (hl : l.length ≤ 1000000000) (rest : List Tm) (acc : List Tm) (hs : rest <:+ l) (hb : ((sumA rest : Nat) : Int) < 4294967296 ^ n) (hacc : acc.length + rest.length ≤ 1000000000) :
    Ev (fun K => qaY K (.c9 (l.map Tm.enc) (acc.map Tm.enc) ((l.length - rest.length : Nat) : Int))) ((acc ++ qqR rest).map Tm.enc) := by
  match rest with
  | [] =>
    refine qaW ?_
    simp only [qaY]
    rw [qqR, List.append_nil]
    exact ev_f (by simp) (qaR (zqB _) (qa6 _))
  | t :: rest =>
    have hlen := hs.length_le
    have hrl := qxF t.m rest t.c
    have hra := zgG t.m rest t.c
    simp only [List.length_cons] at hlen hacc
    rw [sumA] at hb
    have hz : mkI 0 = qaE.mk false [] := q3I
    refine qaW ?_
    simp only [qaY]
    refine ev_t (by simp; omega) (qb8 (zl3 hs) ?_)
    rw [← hz]
    have hrun : runT t.m 0 (t :: rest) = runT t.m t.c rest := by rw [runT, if_pos rfl, Int.zero_add]
    refine zq1 hn hl _ (t :: rest) 0 hs (by rw [sumA]; omega) ?_
    rw [hrun]
    have hs' : (runT t.m t.c rest).2 <:+ l := (zgF t.m rest t.c).trans (zgD hs)
    refine qaW ?_
    simp only [qaY]
    have sa := qrL (c := (runT t.m t.c rest).1) (n := n) (by omega) hn
    have h1 := qhQ sa.1 (by have := sa.2; omega)
    rw [qdQ] at h1
    refine qaR h1 ?_
    have := qm3 (runT t.m t.c rest).1 0
    rw [qqR]
    by_cases e : (runT t.m t.c rest).1 = 0
    · rw [if_pos e]
      refine ev_f (by simp; omega) ?_
      exact zpV hn hl _ acc hs' (by omega) (by omega)
    · rw [if_neg e]
      refine ev_t (by simp; omega) (qgA (by simp; omega) ?_)
      have := zpV hn hl _ (acc ++ [⟨(runT t.m t.c rest).1, t.m⟩]) hs' (by omega) (by simp; omega)
      rw [List.map_append, List.append_assoc] at this
      exact this
termination_by rest.length
theorem ztB {l : List Tm} {m : Mn} {n : Nat} (hn : n ≤ 1000000) (hl : l.length ≤ 1000000000) {r : List qaM} : ∀ (rest : List Tm) (s : Int), rest <:+ l → ((s.natAbs + sumA rest : Nat) : Int) < 4294967296 ^ n →
    Ev (fun K => qaY K (.c8 ⟨mkI (runT m s rest).1, m.enc⟩ (l.map Tm.enc) ((l.length - (runT m s rest).2.length : Nat) : Int))) r →
    Ev (fun K => qaY K (.c7 ⟨mkI s, m.enc⟩ (l.map Tm.enc) ((l.length - rest.length : Nat) : Int))) r
  | [], s, hs, hb, h => by
    refine qaW ?_
    simp only [qaY]
    refine ev_f (by simp) h
  | t :: rest, s, hs, hb, h => by
    have hlen := hs.length_le
    simp only [List.length_cons] at hlen
    refine qaW ?_
    simp only [qaY]
    refine ev_t (by simp; omega) (qb8 (zl3 hs) ?_)
    simp only [zqS hs hl]
    have he := zxG t.m m
    rw [sumA] at hb
    rw [runT] at h
    by_cases e : t.m = m
    · rw [if_pos e] at h
      rw [decide_eq_true e] at he
      refine ev_t he (qb8 (zl3 hs) ?_)
      have sa := qrL (c := s) (n := n) (by omega) hn
      have sb := qrL (c := t.c) (n := n) (by omega) hn
      have h1 := quA sa.1 sb.1 (by have := sa.2; omega) (by have := sb.2; omega)
      rw [qdQ, qdQ] at h1
      exact qaR h1 (ztB hn hl rest (s + t.c) (zgD hs) (by omega) h)
    · rw [if_neg e] at h
      rw [decide_eq_false e] at he
      exact ev_f he h
theorem ztC {l : List Tm} {n : Nat} (hn : n ≤ 1000000) (hl : l.length ≤ 1000000000) (rest : List Tm) (hs : rest <:+ l) (hb : ((sumA rest : Nat) : Int) < 4294967296 ^ n) :
    Ev (fun K => qaY K (.c6 (l.map Tm.enc) ((l.length - rest.length : Nat) : Int))) ((qqR rest).map Tm.enc) := by
  match rest with
  | [] =>
    refine qaW ?_
    simp only [qaY]
    rw [qqR]
    exact ev_f (by simp) (qaR (zqB _) (qa6 _))
  | t :: rest =>
    have hlen := hs.length_le
    have hrl := qxF t.m rest t.c
    have hra := zgG t.m rest t.c
    simp only [List.length_cons] at hlen
    rw [sumA] at hb
    have hz : mkI 0 = qaE.mk false [] := q3I
    refine qaW ?_
    simp only [qaY]
    refine ev_t (by simp; omega) (qb8 (zl3 hs) ?_)
    rw [← hz]
    have hrun : runT t.m 0 (t :: rest) = runT t.m t.c rest := by rw [runT, if_pos rfl, Int.zero_add]
    refine ztB hn hl (t :: rest) 0 hs (by rw [sumA]; omega) ?_
    rw [hrun]
    have hs' : (runT t.m t.c rest).2 <:+ l := (zgF t.m rest t.c).trans (zgD hs)
    refine qaW ?_
    simp only [qaY]
    have sa := qrL (c := (runT t.m t.c rest).1) (n := n) (by omega) hn
    have h1 := qhQ sa.1 (by have := sa.2; omega)
    rw [qdQ] at h1
    refine qaR h1 ?_
    have := qm3 (runT t.m t.c rest).1 0
    rw [qqR]
    by_cases e : (runT t.m t.c rest).1 = 0
    · rw [if_pos e]
      refine ev_f (by simp; omega) ?_
      exact ztC hn hl _ hs' (by omega)
    · rw [if_neg e]
      refine ev_t (by simp; omega) ?_
      exact zpV hn hl _ [⟨(runT t.m t.c rest).1, t.m⟩] hs' (by omega) (by simp; omega)
termination_by rest.length
structure zy9 (l out : List Tm) : Prop where
  ev : ∀ ρ, sumT ρ out = sumT ρ l
  abs : sumA out ≤ sumA l
  len : out.length ≤ l.length
  mem : ∀ t ∈ out, t.c ≠ 0 ∧ ∃ s ∈ l, s.m = t.m
theorem ztD {l : List Tm} {n : Nat} (hn : n ≤ 1000000) (hl : l.length ≤ 1000000000) (hb : ((sumA l : Nat) : Int) < 4294967296 ^ n) : ∀ (d i : Nat), i + d = l.length →
    ∃ out, Ev (fun K => qaY K (.c5 ((l.take i).map Tm.enc) (l.map Tm.enc) (l.length : Int) (i : Int))) (out.map Tm.enc) ∧ zy9 l out
  | 0, i, hi => by
    obtain ⟨r, h1, h2⟩ := zyC (row := l.map Tm.enc) (by rw [List.length_map]; omega)
    obtain ⟨l', hp, rfl⟩ := zu6 h2
    refine ⟨qqR l', ?_, ⟨fun ρ => by rw [zoP, zsU ρ hp], by rw [← zn1 hp]; exact zl9 l', by rw [← hp.length_eq]; exact zl8 l', fun t ht => ?_⟩⟩
    · refine qaW ?_
      simp only [qaY]
      rw [List.take_of_length_le (by omega)]
      refine ev_f (by simp; omega) (qaR h1 (qgA h2.length_eq ?_))
      have hpl := hp.length_eq
      have := ztC (l := l') hn (by omega) l' (List.suffix_refl _) (by rw [zn1 hp]; exact hb)
      rw [Nat.sub_self] at this
      exact this
    · obtain ⟨h3, s, h4, h5⟩ := zl7 l' t ht
      exact ⟨h3, s, hp.mem_iff.1 h4, h5⟩
  | d + 1, i, hi => by
    obtain ⟨out, h1, h2⟩ := ztD hn hl hb d (i + 1) (by omega)
    refine ⟨out, ?_, h2⟩
    obtain ⟨t, ht⟩ : ∃ c, l[i]? = some c := ⟨_, List.getElem?_eq_getElem (by omega)⟩
    have hg : gi (l.map Tm.enc) (i : Int) = some t.enc := zaF (by rw [List.getElem?_map, ht]; rfl)
    refine qaW ?_
    simp only [qaY]
    refine ev_t (by simp; omega) (qb8 hg (qaR (q8D _ _ _ _) (ev_t ?_ (qgA (by simp; omega) ?_))))
    · refine decide_eq_true ?_
      show (0 : Int) ≤ min (min (min (t.m.e0 : Int) t.m.e1) t.m.e2) t.m.e3
      omega
    · refine qaW ?_
      simp only [qaY]
      rw [qdF (by omega)]
      have e : (l.take i).map Tm.enc ++ [t.enc] = (l.take (i + 1)).map Tm.enc := by rw [List.take_add_one, ht, List.map_append]; rfl
      rw [e]
      exact h1
theorem quX {l : List Tm} {n : Nat} (hn : n ≤ 1000000) (hl : l.length ≤ 1000000000) (hb : ((sumA l : Nat) : Int) < 4294967296 ^ n) :
    ∃ out, Ev (fun K => qpK K (l.map Tm.enc)) (out.map Tm.enc) ∧ zy9 l out := by
  cases l with
  | nil =>
    refine ⟨[], ?_, ⟨fun _ => rfl, Nat.le_refl _, Nat.le_refl _, fun t h => by cases h⟩⟩
    refine qaW ?_
    simp only [qpK, qaY]
    refine qaW ?_
    simp only [qaY]
    refine ev_f (by simp) (qaR zuX ?_)
    refine qaW ?_
    simp only [qaY]
    exact ev_f (by simp) (qaR (zqB _) (qa6 _))
  | cons t l =>
    obtain ⟨out, h1, h2⟩ := ztD hn hl hb l.length 1 (by simp only [List.length_cons]; omega)
    refine ⟨out, ?_, h2⟩
    have hg : gi ((t :: l).map Tm.enc) (0 : Int) = some t.enc := rfl
    refine qaW ?_
    simp only [qpK, qaY]
    refine qaW ?_
    simp only [qaY]
    refine ev_t (decide_eq_true (by simp only [List.length_map, List.length_cons]; omega)) (qb8 hg (qaR (q8D _ _ _ _) (ev_t ?_ ?_)))
    · refine decide_eq_true ?_
      show (0 : Int) ≤ min (min (min (t.m.e0 : Int) t.m.e1) t.m.e2) t.m.e3
      omega
    · refine qaW ?_
      simp only [qaY]
      rw [qdF (by omega), List.length_map]
      exact h1
open Go.Proofs.Tryz (prog)
inductive ql4 where
 | c0 (n : Int)
def qhV : Nat → ql4 → Option qaE
 | 0, _ => none
 | _ + 1, .c0 n =>
  bif (decide (n < (0 : Int))) then
   some (qaE.mk true ([(wU3 (wI6 (0 - (wI6 n))))] : List Int))
  else
   bif (decide (n = (0 : Int))) then
    some (qaE.mk false [])
   else
    some (qaE.mk false ([(wU3 n)] : List Int))
def qm1 (K : Nat) (n : Int) : Option qaE := qhV K (.c0 n)
noncomputable def q18 : Code := qcS prog 120
noncomputable def q33 : ql4 → List Fr
 | .c0 .. => [.code q18]
def q5A : ql4 → St
 | .c0 n => St.init [(ti .i8 n)]
def qw4 (cx : Cx) (c : ql4) (r : qaE) : Prop := Wk prog cx (qd8 prog 120 [[0,1]] (TV.agg (qaK r))) (q33 c) .normal (q5A c)
abbrev qw5 (K : Nat) : Prop := ∀ c r, qhV K c = some r → ∀ cx : Cx, cx.n = 18 → qw4 cx c r
theorem q5B {K} (_ : qw5 K) {cx} (hn : cx.n = 18) {n} {r} (h : qhV (K + 1) (.c0 n) = some r) : qw4 cx (.c0 n) r := by
 rw [qhV] at h
 rcases qa0 h with ⟨h1, h⟩ | ⟨h1, h⟩
 ·have h := oinj h; subst h
  exact wkR [rg1, rg2, bTr, rgG [oo, oo, oo, oo, opI (.lit (([(wU3 (wI6 (0 - (wI6 n))))] : List Int).map qaF)), .snap 9 (max 0 (0 + 1)) (([(wU3 (wI6 (0 - (wI6 n))))] : List Int).map qaF), oo, oo]] hn (aC h1 <| aC (by kernel_rfl : [(T.int .u32 (wU3 (wI6 (0 - (wI6 n)))))] = (([(wU3 (wI6 (0 - (wI6 n))))] : List Int).map qaF).flatten) <| aC (qeH _ _ _ (by simp) : ((([(wU3 (wI6 (0 - (wI6 n))))] : List Int).map qaF).drop 0).take 1 = ([(wU3 (wI6 (0 - (wI6 n))))] : List Int).map qaF) <| aC (rfl : (max 0 (0 + 1)) = (max 0 (0 + 1))) <| aN)
 ·rcases qa0 h with ⟨h2, h⟩ | ⟨h2, h⟩
  ·have h := oinj h; subst h
   exact wkR [rg1, rg2, bFa, rg2, bTr, rg2] hn (aC h1 <| aC h2 <| aN)
  ·have h := oinj h; subst h
   exact wkR [rg1, rg2, bFa, rg2, bFa, rgG [oo, oo, opI (.lit (([(wU3 n)] : List Int).map qaF)), .snap 16 (max 0 (0 + 1)) (([(wU3 n)] : List Int).map qaF), oo, oo]] hn (aC h1 <| aC h2 <| aC (by kernel_rfl : [(T.int .u32 (wU3 n))] = (([(wU3 n)] : List Int).map qaF).flatten) <| aC (qeH _ _ _ (by simp) : ((([(wU3 n)] : List Int).map qaF).drop 0).take 1 = ([(wU3 n)] : List Int).map qaF) <| aC (rfl : (max 0 (0 + 1)) = (max 0 (0 + 1))) <| aN)
theorem quQ : ∀ K : Nat, qw5 K
 | 0, c, r, h => by rw [qhV] at h; cases h
 | K + 1, .c0 .., r, h => fun cx hn => q5B (quQ K) hn h
theorem qtB {K : Nat} {n : Int} {r : qaE} (h : qm1 K n = some r) : qc7 prog 120 [(ti .i8 n)] (TV.agg (qaK r)) :=
 qbL [[0,1]] (by kernel_rfl) (by simp) fun cx hn => quQ K (.c0 n) r h cx hn
open Go.Proofs.Tryz (prog)
inductive qjT where
 | c0 (l : (List qbB))
 | c1 (l : (List qbB)) (i : Int)
 | c2 (t : qaM) (l : (List qbB)) (i : Int) (k : Int)
 | c3 (r38 : (List qaM)) (l : (List qbB)) (i : Int)
 | c4 (t : qaM) (r38 : (List qaM)) (l : (List qbB)) (i : Int) (k : Int)
def qa1 : Nat → qjT → Option (List qaM)
 | 0, _ => none
 | K + 1, .c0 l =>
  qa1 K (.c1 l (0 : Int))
 | K + 1, .c1 l i =>
  bif (decide (i < (l.length : Int))) then
   (gi l i).bind fun x2 =>
   (qm1 K x2.Coef).bind fun x4 =>
   qa1 K (.c2 (qaM.mk x4 (qa7.mk (0 : Int) (0 : Int) (0 : Int) (0 : Int))) l i (0 : Int))
  else
   some []
 | K + 1, .c2 t l i k =>
  bif (decide (k < (4 : Int))) then
   (gi l i).bind fun x2 =>
   bif (decide (k = 0)) then
    qa1 K (.c2 (qaM.mk t.Coef (qa7.mk (wI6 x2.Exp.e0) t.Exp.e1 t.Exp.e2 t.Exp.e3)) l i (wI6 (k + (1 : Int))))
   else
    bif (decide (k = 1)) then
     qa1 K (.c2 (qaM.mk t.Coef (qa7.mk t.Exp.e0 (wI6 x2.Exp.e1) t.Exp.e2 t.Exp.e3)) l i (wI6 (k + (1 : Int))))
    else
     bif (decide (k = 2)) then
      qa1 K (.c2 (qaM.mk t.Coef (qa7.mk t.Exp.e0 t.Exp.e1 (wI6 x2.Exp.e2) t.Exp.e3)) l i (wI6 (k + (1 : Int))))
     else
      bif (decide (k = 3)) then
       qa1 K (.c2 (qaM.mk t.Coef (qa7.mk t.Exp.e0 t.Exp.e1 t.Exp.e2 (wI6 x2.Exp.e3))) l i (wI6 (k + (1 : Int))))
      else
       none
  else
   qa1 K (.c3 ([t] : List qaM) l (wI6 (i + (1 : Int))))
 | K + 1, .c3 r38 l i =>
  bif (decide (i < (l.length : Int))) then
   (gi l i).bind fun x2 =>
   (qm1 K x2.Coef).bind fun x4 =>
   qa1 K (.c4 (qaM.mk x4 (qa7.mk (0 : Int) (0 : Int) (0 : Int) (0 : Int))) r38 l i (0 : Int))
  else
   some r38
 | K + 1, .c4 t r38 l i k =>
  bif (decide (k < (4 : Int))) then
   (gi l i).bind fun x2 =>
   bif (decide (k = 0)) then
    qa1 K (.c4 (qaM.mk t.Coef (qa7.mk (wI6 x2.Exp.e0) t.Exp.e1 t.Exp.e2 t.Exp.e3)) r38 l i (wI6 (k + (1 : Int))))
   else
    bif (decide (k = 1)) then
     qa1 K (.c4 (qaM.mk t.Coef (qa7.mk t.Exp.e0 (wI6 x2.Exp.e1) t.Exp.e2 t.Exp.e3)) r38 l i (wI6 (k + (1 : Int))))
    else
     bif (decide (k = 2)) then
      qa1 K (.c4 (qaM.mk t.Coef (qa7.mk t.Exp.e0 t.Exp.e1 (wI6 x2.Exp.e2) t.Exp.e3)) r38 l i (wI6 (k + (1 : Int))))
     else
      bif (decide (k = 3)) then
       qa1 K (.c4 (qaM.mk t.Coef (qa7.mk t.Exp.e0 t.Exp.e1 t.Exp.e2 (wI6 x2.Exp.e3))) r38 l i (wI6 (k + (1 : Int))))
      else
       none
  else
   gd ((r38 ++ ([t] : List qaM)).length * 64 ≤ 140737488355328) <|
   qa1 K (.c3 (r38 ++ ([t] : List qaM)) l (wI6 (i + (1 : Int))))
def qmD (K : Nat) (l : (List qbB)) : Option (List qaM) := qa1 K (.c0 l)
noncomputable def qcB : Code := qcS prog 60
noncomputable def qzM : qjT → List Fr
 | .c0 .. => [.code qcB]
 | .c1 .. => [.code (.loop (atC qcB [1,1,0,1,0,0])), .blk 0, .code (atC qcB [1,1,1])]
 | .c2 .. => [.code (.loop (atC qcB [1,1,0,1,0,0,1,0,0,1,0,1,0,0])), .blk 2, .code (atC qcB [1,1,0,1,0,0,1,0,0,1,1]), .blk 1, .code (atC qcB [1,1,0,1,0,0,1,1]), .lp (atC qcB [1,1,0,1,0,0]), .blk 0, .code (atC qcB [1,1,1])]
 | .c3 .. => [.code (.loop (atC qcB [1,1,0,1,0,0])), .blk 0, .code (atC qcB [1,1,1])]
 | .c4 .. => [.code (.loop (atC qcB [1,1,0,1,0,0,1,0,0,1,0,1,0,0])), .blk 2, .code (atC qcB [1,1,0,1,0,0,1,0,0,1,1]), .blk 1, .code (atC qcB [1,1,0,1,0,0,1,1]), .lp (atC qcB [1,1,0,1,0,0]), .blk 0, .code (atC qcB [1,1,1])]
def q0F : qjT → St
 | .c0 l => St.init [(tl 5 l qaQ)]
 | .c1 l i => ⟨[(0, vl 5 l qaQ), (3, .c (C.nil)), (4, vi .i64 i)], [], []⟩
 | .c2 t l i k => ⟨[(0, vl 5 l qaQ), (3, .c (C.nil)), (4, vi .i64 i), (5, .c (C.ptr 5 0)), (6, vi .i64 k)], [(5, .var ((qaA t).map C.t))], []⟩
 | .c3 r38 l i => ⟨[(0, vl 5 l qaQ), (3, .c (C.row 38 0 r38.length)), (4, vi .i64 i)], [(38, .row 173 6 (r38.map qaA) 0)], []⟩
 | .c4 t r38 l i k => ⟨[(0, vl 5 l qaQ), (3, .c (C.row 38 0 r38.length)), (4, vi .i64 i), (5, .c (C.ptr 5 0)), (6, vi .i64 k)], [(5, .var ((qaA t).map C.t)), (38, .row 173 6 (r38.map qaA) 0)], []⟩
def qgJ (cx : Cx) (c : qjT) (r : (List qaM)) : Prop := Wk prog cx (qd8 prog 60 [[6]] (tl 6 r qaA)) (qzM c) .normal (q0F c)
abbrev qgK (K : Nat) : Prop := ∀ c r, qa1 K c = some r → ∀ cx : Cx, cx.n = 40 → qgJ cx c r
theorem q0K {K} (ih : qgK K) {cx} (hn : cx.n = 40) {l} {r} (h : qa1 (K + 1) (.c0 l) = some r) : qgJ cx (.c0 l) r := by
 rw [qa1] at h
 exact q2E (fuel := 64) [rg1, rg1, rg1, .pre [.keep [0,3,4] []]] _ hn (by kernel_rfl) aN (ih _ _ h cx hn)
theorem q0J {K} (ih : qgK K) {cx} (hn : cx.n = 40) {l i} {r} (h : qa1 (K + 1) (.c1 l i) = some r) : qgJ cx (.c1 l i) r := by
 rw [qa1] at h
 rcases qa0 h with ⟨h1, h⟩ | ⟨h1, h⟩
 ·obtain ⟨x2, h3, h⟩ := qaU h
  obtain ⟨x4, h5, h⟩ := qaU h
  exact wkG [.go, rgG [oo, oo, opI (.ln (l.length : Int)), oo], bTr, rgG [oo, oo, opI (.ix (qaQ x2)), oo, oo, opI (.call [[0]] [(ti .i8 x2.Coef)] (TV.agg (qaK x4))), oo, oo, oo], rg1, .pre [.keep [0,3,4,5,6] [5]]] hn (aC (qdI l qaQ) <| aC h1 <| aC (qb5 h3) <| aC (qfP qaQ h3) <| aC (qtB h5) <| aN) (ih _ _ h cx hn)
 ·have h := oinj h; subst h
  exact wkR [.go, rgG [oo, oo, opI (.ln (l.length : Int)), oo], bFa, rg2] hn (aC (qdI l qaQ) <| aC h1 <| aN)
theorem q0I {K} (ih : qgK K) {cx} (hn : cx.n = 40) {t l i k} {r} (h : qa1 (K + 1) (.c2 t l i k) = some r) : qgJ cx (.c2 t l i k) r := by
 rw [qa1] at h
 rcases qa0 h with ⟨h1, h⟩ | ⟨h1, h⟩
 ·obtain ⟨x2, h3, h⟩ := qaU h
  rcases qa0 h with ⟨h4, h⟩ | ⟨h4, h⟩
  ·exact wkG [.go, rg2, bTr, rgG [oo, oo, oo, oo, opI (.ix (qaQ x2)), oo, opI (.ia 0), oo, oo, oo, opI (.ia 0), oo], rg3, .pre [.keep [0,3,4,5,6] [5]]] hn (aC h1 <| aC (qb5 h3) <| aC (qfP qaQ h3) <| aC (of_decide_eq_true h4 : k = ((0 : Nat) : Int)) <| aC (of_decide_eq_true h4 : k = ((0 : Nat) : Int)) <| aN) (ih _ _ h cx hn)
  ·rcases qa0 h with ⟨h5, h⟩ | ⟨h5, h⟩
   ·exact wkG [.go, rg2, bTr, rgG [oo, oo, oo, oo, opI (.ix (qaQ x2)), oo, opI (.ia 1), oo, oo, oo, opI (.ia 1), oo], rg3, .pre [.keep [0,3,4,5,6] [5]]] hn (aC h1 <| aC (qb5 h3) <| aC (qfP qaQ h3) <| aC (of_decide_eq_true h5 : k = ((1 : Nat) : Int)) <| aC (of_decide_eq_true h5 : k = ((1 : Nat) : Int)) <| aN) (ih _ _ h cx hn)
   ·rcases qa0 h with ⟨h6, h⟩ | ⟨h6, h⟩
    ·exact wkG [.go, rg2, bTr, rgG [oo, oo, oo, oo, opI (.ix (qaQ x2)), oo, opI (.ia 2), oo, oo, oo, opI (.ia 2), oo], rg3, .pre [.keep [0,3,4,5,6] [5]]] hn (aC h1 <| aC (qb5 h3) <| aC (qfP qaQ h3) <| aC (of_decide_eq_true h6 : k = ((2 : Nat) : Int)) <| aC (of_decide_eq_true h6 : k = ((2 : Nat) : Int)) <| aN) (ih _ _ h cx hn)
    ·rcases qa0 h with ⟨h7, h⟩ | ⟨h7, h⟩
     ·exact wkG [.go, rg2, bTr, rgG [oo, oo, oo, oo, opI (.ix (qaQ x2)), oo, opI (.ia 3), oo, oo, oo, opI (.ia 3), oo], rg3, .pre [.keep [0,3,4,5,6] [5]]] hn (aC h1 <| aC (qb5 h3) <| aC (qfP qaQ h3) <| aC (of_decide_eq_true h7 : k = ((3 : Nat) : Int)) <| aC (of_decide_eq_true h7 : k = ((3 : Nat) : Int)) <| aN) (ih _ _ h cx hn)
     ·cases h
 ·exact wkG [.go, rg2, bFa, rgG [oo, oo, opI (.lit (([t] : List qaM).map qaA)), opI (.appN (([t] : List qaM).map qaA)), oo], rg3, .pre [.rl 3 0 ([t] : List qaM).length, .keep [0,3,4] [38]]] hn (aC h1 <| aC (by kernel_rfl : [(T.bool t.Coef.Neg), (T.sl 1 (t.Coef.Abs.map qaF)), (T.int .i64 t.Exp.e0), (T.int .i64 t.Exp.e1), (T.int .i64 t.Exp.e2), (T.int .i64 t.Exp.e3)] = (([t] : List qaM).map qaA).flatten) <| aC (qeH _ _ _ (by simp) : ((([t] : List qaM).map qaA).drop 0).take 1 = ([t] : List qaM).map qaA) <| aC (by simp : 0 < (([t] : List qaM).map qaA).length) <| aC (by simp : (([t] : List qaM).map qaA).length * 64 ≤ 140737488355328) <| aC (by simp [maxLen] : (([t] : List qaM).map qaA).length ≤ maxLen) <| aC r0 <| aC (by simp : (([t] : List qaM).map qaA).length = ([t] : List qaM).length) <| aN) (ih _ _ h cx hn)
theorem q0H {K} (ih : qgK K) {cx} (hn : cx.n = 40) {r38 l i} {r} (h : qa1 (K + 1) (.c3 r38 l i) = some r) : qgJ cx (.c3 r38 l i) r := by
 rw [qa1] at h
 rcases qa0 h with ⟨h1, h⟩ | ⟨h1, h⟩
 ·obtain ⟨x2, h3, h⟩ := qaU h
  obtain ⟨x4, h5, h⟩ := qaU h
  exact wkG [.go, rgG [oo, oo, opI (.ln (l.length : Int)), oo], bTr, rgG [oo, oo, opI (.ix (qaQ x2)), oo, oo, opI (.call [[0]] [(ti .i8 x2.Coef)] (TV.agg (qaK x4))), oo, oo, oo], rg1, .pre [.rl 3 0 r38.length, .keep [0,3,4,5,6] [5,38]]] hn (aC (qdI l qaQ) <| aC h1 <| aC (qb5 h3) <| aC (qfP qaQ h3) <| aC (qtB h5) <| aC r0 <| aC (lq r38) <| aN) (ih _ _ h cx hn)
 ·have h := oinj h; subst h
  exact wkR [.go, rgG [oo, oo, opI (.ln (l.length : Int)), oo], bFa, rgG [oo, oo, .snap 2 (max 0 (0 + r38.length)) (r38.map qaA)]] hn (aC (qdI l qaQ) <| aC h1 <| aC (qeH _ _ _ (by simp) : ((r38.map qaA).drop 0).take r38.length = r38.map qaA) <| aC (rfl : (max 0 (0 + r38.length)) = (max 0 (0 + r38.length))) <| aN)
theorem q0G {K} (ih : qgK K) {cx} (hn : cx.n = 40) {t r38 l i k} {r} (h : qa1 (K + 1) (.c4 t r38 l i k) = some r) : qgJ cx (.c4 t r38 l i k) r := by
 rw [qa1] at h
 rcases qa0 h with ⟨h1, h⟩ | ⟨h1, h⟩
 ·obtain ⟨x2, h3, h⟩ := qaU h
  rcases qa0 h with ⟨h4, h⟩ | ⟨h4, h⟩
  ·exact wkG [.go, rg2, bTr, rgG [oo, oo, oo, oo, opI (.ix (qaQ x2)), oo, opI (.ia 0), oo, oo, oo, opI (.ia 0), oo], rg3, .pre [.rl 3 0 r38.length, .keep [0,3,4,5,6] [5,38]]] hn (aC h1 <| aC (qb5 h3) <| aC (qfP qaQ h3) <| aC (of_decide_eq_true h4 : k = ((0 : Nat) : Int)) <| aC (of_decide_eq_true h4 : k = ((0 : Nat) : Int)) <| aC r0 <| aC (lq r38) <| aN) (ih _ _ h cx hn)
  ·rcases qa0 h with ⟨h5, h⟩ | ⟨h5, h⟩
   ·exact wkG [.go, rg2, bTr, rgG [oo, oo, oo, oo, opI (.ix (qaQ x2)), oo, opI (.ia 1), oo, oo, oo, opI (.ia 1), oo], rg3, .pre [.rl 3 0 r38.length, .keep [0,3,4,5,6] [5,38]]] hn (aC h1 <| aC (qb5 h3) <| aC (qfP qaQ h3) <| aC (of_decide_eq_true h5 : k = ((1 : Nat) : Int)) <| aC (of_decide_eq_true h5 : k = ((1 : Nat) : Int)) <| aC r0 <| aC (lq r38) <| aN) (ih _ _ h cx hn)
   ·rcases qa0 h with ⟨h6, h⟩ | ⟨h6, h⟩
    ·exact wkG [.go, rg2, bTr, rgG [oo, oo, oo, oo, opI (.ix (qaQ x2)), oo, opI (.ia 2), oo, oo, oo, opI (.ia 2), oo], rg3, .pre [.rl 3 0 r38.length, .keep [0,3,4,5,6] [5,38]]] hn (aC h1 <| aC (qb5 h3) <| aC (qfP qaQ h3) <| aC (of_decide_eq_true h6 : k = ((2 : Nat) : Int)) <| aC (of_decide_eq_true h6 : k = ((2 : Nat) : Int)) <| aC r0 <| aC (lq r38) <| aN) (ih _ _ h cx hn)
    ·rcases qa0 h with ⟨h7, h⟩ | ⟨h7, h⟩
     ·exact wkG [.go, rg2, bTr, rgG [oo, oo, oo, oo, opI (.ix (qaQ x2)), oo, opI (.ia 3), oo, oo, oo, opI (.ia 3), oo], rg3, .pre [.rl 3 0 r38.length, .keep [0,3,4,5,6] [5,38]]] hn (aC h1 <| aC (qb5 h3) <| aC (qfP qaQ h3) <| aC (of_decide_eq_true h7 : k = ((3 : Nat) : Int)) <| aC (of_decide_eq_true h7 : k = ((3 : Nat) : Int)) <| aC r0 <| aC (lq r38) <| aN) (ih _ _ h cx hn)
     ·cases h
 ·obtain ⟨h2, h⟩ := qbV h
  exact wkG [.go, rg2, bFa, .pre [.keep [0,3,4,5] [5,38]], rgG [oo, oo, opI (.lit (([t] : List qaM).map qaA)), .appR (([t] : List qaM).map qaA) ((r38 ++ ([t] : List qaM)).map qaA), oo], rg3, .pre [.rl 3 0 (r38 ++ ([t] : List qaM)).length, .keep [0,3,4] [38]]] hn (aC h1 <| aC (by kernel_rfl : [(T.bool t.Coef.Neg), (T.sl 1 (t.Coef.Abs.map qaF)), (T.int .i64 t.Exp.e0), (T.int .i64 t.Exp.e1), (T.int .i64 t.Exp.e2), (T.int .i64 t.Exp.e3)] = (([t] : List qaM).map qaA).flatten) <| aC (by simp : r38.length = (r38.map qaA).length) <| aC (qeH _ _ _ (by simp) : ((([t] : List qaM).map qaA).drop 0).take 1 = ([t] : List qaM).map qaA) <| aC (qk5 _ _ _ : r38.map qaA ++ ([t] : List qaM).map qaA = (r38 ++ ([t] : List qaM)).map qaA) <| aC ((qcZ _ _).symm ▸ h2 : ((r38 ++ ([t] : List qaM)).map qaA).length * 64 ≤ 140737488355328) <| aC ((qcZ _ _).symm ▸ room (by decide) h2 : ((r38 ++ ([t] : List qaM)).map qaA).length ≤ maxLen) <| aC r0 <| aC (by simp : ((r38 ++ ([t] : List qaM)).map qaA).length = (r38 ++ ([t] : List qaM)).length) <| aN) (ih _ _ h cx hn)
theorem qfT : ∀ K : Nat, qgK K
 | 0, c, r, h => by rw [qa1] at h; cases h
 | K + 1, .c0 .., r, h => fun cx hn => q0K (qfT K) hn h
 | K + 1, .c1 .., r, h => fun cx hn => q0J (qfT K) hn h
 | K + 1, .c2 .., r, h => fun cx hn => q0I (qfT K) hn h
 | K + 1, .c3 .., r, h => fun cx hn => q0H (qfT K) hn h
 | K + 1, .c4 .., r, h => fun cx hn => q0G (qfT K) hn h
theorem qxD {K : Nat} {l : (List qbB)} {r : (List qaM)} (h : qmD K l = some r) : qc7 prog 60 [(tl 5 l qaQ)] (tl 6 r qaA) :=
 qbL [[6]] (by kernel_rfl) (by simp) fun cx hn => qfT K (.c0 l) r h cx hn
end Go.Am.X
namespace Go.Am
open Go.RowKit (Below)
theorem zlS {r : Option Nat} {n m : Nat} {P : Program} {c : Code} {Q : Exit → Act → World → Prop} {a : Act} {w : World} (h : c.wpIn (qqC r) n P Q a w) : c.wpIn (qqC r) m P Q a w :=
  fun b k cs h1 h2 _ => h b k cs h1 h2 (fun _ h => by simp [qqC, Fence.wide] at h)
def qjZ (n : Nat) (tm : List (Nat × V)) : List V := (List.range n).map fun t => (tm.lookup t).getD (.c .any)
section
variable {P : Program} {cx : Cx} {o : Oper} {st : St} {L L' : Loc} {I I' : Nat → Nat → Prop} {a : Act} {w w' : World}
theorem q3P (w : World) (L : Loc) (ds : List Nat) (H : List (Nat × Blk)) (I : Nat → Nat → Prop) : Keep none w w L { L with ds := ds } H H I I :=
  ⟨fun _ _ h => h, fun _ _ _ => rfl, fun _ _ hs => ⟨hs, rfl⟩, fun _ _ _ es fz _ hl => ⟨es, fz, hl, Nat.le_refl _, rfl⟩⟩
theorem SimD.putRec {w0 : World} {I0 : Nat → Nat → Prop} {xs : List Value} {n : Nat} {rd rd' : Option Nat} {ks : List (Nat × Obj)} {l : Nat} {r r' : Obj} (h : SimD ⟨w0, I0, xs, n, rd, (l, r) :: ks⟩ L I st a w) (hl : w0.heap.size ≤ l)
    (hr' : ∀ c t q, r' ≠ .cells c t q) : SimD ⟨w0, I0, xs, n, rd', (l, r') :: ks⟩ L I st a (w.putObj l r') := by
  obtain ⟨hD, hnc⟩ := h.kp.2 (l, r) (List.mem_cons_self ..)
  have hlt := (Array.getElem?_eq_some_iff.1 hD).1
  have oth : ∀ k, k ≠ l → (w.putObj l r').heap[k]? = w.heap[k]? := fun k hk => World.putObj_heap_other hk
  have hsz : (w.putObj l r').heap.size = w.heap.size := by simp [World.putObj]
  have nd : (l :: ks.map (·.1)).Nodup := h.kp.1
  have k : Keep none w (w.putObj l r') L L st.hp st.hp I I := by
    refine ⟨fun _ _ h => h, fun b o _ => ?_, fun j _ hs => ⟨hs, rfl⟩, fun j e sz es fz _ hl => ⟨es, fz, hl, Nat.le_refl _, rfl⟩⟩
    by_cases e : b = l
    · subst e
      simp only [World.cell?, World.putObj_heap_same hlt]
      have hD' : w.heap[b]? = some r := hD
      rw [hD']
      cases r with
      | cells c t q => exact absurd rfl (hnc c t q)
      | _ => cases r' with
        | cells c t q => exact absurd rfl (hr' c t q)
        | _ => rfl
    · simp only [World.cell?, oth b e]
  have ne : ∀ j b, st.hp.lookup j = some b → L.m j ≠ l := fun j b hl e => by
    have hD' : w.heap[l]? = some r := hD
    have := h.hp j b hl
    cases b with
    | var cs => obtain ⟨_, _, c, ty, h3, _⟩ := this; rw [e, hD'] at h3; exact hnc _ _ _ (by simpa using h3)
    | row e' sz es fz => obtain ⟨_, _, _, _, _, _, c, h7, _⟩ := this; rw [e, hD'] at h7; exact hnc _ _ _ (by simpa using h7)
  exact {
    below := h.below.trans ((Below.refl _ w).grown (grownBy_putObj' w l r') (by rw [← hsz]; exact Nat.le_trans h.below.size (Nat.le_of_eq hsz.symm)) (fun k e => by cases e; exact hl))
    i0 := h.i0
    i1 := h.i1
    ib := fun b o hb => by rw [hsz]; exact h.ib b o hb
    inj := h.inj
    hp := fun j b hl => BR.keep k (h.hp j b hl) (Blk.free_none _) (oth _ (ne j b hl)) rfl rfl (fun o ho => ho)
    tm := fun t v hl => by
      obtain ⟨h1, h2⟩ := h.tm t v hl
      exact ⟨k.v (V.free_none v) h1, h2⟩
    ex := k.vs (qgB _) h.ex
    defers := h.defers
    kp := ⟨nd, fun p hp => by
      rcases List.mem_cons.1 hp with rfl | hp
      · exact ⟨World.putObj_heap_same hlt, hr'⟩
      · obtain ⟨h1, h2⟩ := h.kp.2 p (List.mem_cons_of_mem _ hp)
        exact ⟨(oth _ (fun e => (List.nodup_cons.1 nd).1 (e ▸ List.mem_map.2 ⟨p, hp, rfl⟩))).trans h1, h2⟩⟩
    mks := ⟨h.mks.1, fun D hD => by
      obtain ⟨h1, h2, h3⟩ := h.mks.2 D hD
      exact ⟨(oth _ (fun e => h3 (l, r) (List.mem_cons_self ..) e.symm)).trans h1, h2, fun p hp => by
        rcases List.mem_cons.1 hp with rfl | hp
        · exact h3 (l, r) (List.mem_cons_self ..)
        · exact h3 p (List.mem_cons_of_mem _ hp)⟩⟩
    size := h.size }
theorem tmv_R (h : SimD cx L I st a w) : VRs w L st.hp I a.tmps.toList (qjZ cx.n st.tm) := VRs.of_get _ _ (by simp [qjZ, h.size]) fun k v x h1 h2 => by
  have hk : k < cx.n := by
    have := (List.getElem?_eq_some_iff.1 h2).1
    simpa [qjZ] using this
  simp only [qjZ, List.getElem?_map, List.getElem?_range hk, Option.map_some, Option.some.injEq] at h2
  subst h2
  cases hl : st.tm.lookup k with
  | none => trivial
  | some y =>
    have := (h.tm k y hl).1
    have e : a.tmps.getD k undef = v := by
      rw [Array.getD_eq_getD_getElem?]
      rw [Array.getElem?_toList] at h1
      rw [h1]; rfl
    rw [e] at this
    exact this
theorem SimD.bare {ks' : List (Nat × Obj)} (h : SimD cx L I st a w) (hk : zoU ks' w) : SimD ⟨cx.w0, cx.I0, cx.xs ++ a.tmps.toList, 0, none, ks'⟩ { L with ds := [] } I ⟨[], st.hp, st.ex ++ qjZ cx.n st.tm⟩ a00 w :=
  { below := h.below
    i0 := h.i0
    i1 := h.i1
    ib := h.ib
    inj := h.inj
    hp := fun j b hl => BR.keep (q3P w L [] st.hp I) (h.hp j b hl) (Blk.free_none _) rfl rfl rfl (fun o ho => ho)
    tm := fun t v ht => by simp at ht
    ex := (q3P w L [] st.hp I).vs (qgB _) (VRs.append h.ex (tmv_R h))
    defers := rfl
    kp := hk
    mks := ⟨List.nodup_nil, fun _ h => by cases h⟩
    size := rfl }
theorem SimD.unbare {ks' : List (Nat × Obj)} {hp' : List (Nat × Blk)} {a' : Act} {ds : List Nat} (h : SimD cx L I st a w) (h2 : SimD ⟨cx.w0, cx.I0, cx.xs ++ a.tmps.toList, 0, none, ks'⟩ L' I' ⟨[], hp', st.ex ++ qjZ cx.n st.tm⟩ a00 w') (ha : a'.tmps = a.tmps)
    (hd : a'.defers = zm7 ds) (hk : zoU cx.ks w') (hm : ds.Nodup ∧ ∀ D ∈ ds, w'.heap[D]? = some (.deferred (some [])) ∧ cx.w0.heap.size ≤ D ∧ ∀ p ∈ cx.ks, p.1 ≠ D) : SimD cx { L' with ds := ds } I' { st with hp := hp' } a' w' := by
  have hxl : cx.xs.length = st.ex.length := VRs.length h.ex
  exact { below := h2.below
          i0 := h2.i0
          i1 := h2.i1
          ib := h2.ib
          inj := h2.inj
          hp := fun j b hl => BR.keep (q3P w' L' ds hp' I') (h2.hp j b hl) (Blk.free_none _) rfl rfl rfl (fun o ho => ho)
          tm := fun t v ht => by
            have htn := (h.tm t v ht).2
            refine ⟨?_, htn⟩
            have hg : (st.ex ++ qjZ cx.n st.tm)[st.ex.length + t]? = some v := by
              rw [List.getElem?_append_right (by omega), Nat.add_sub_cancel_left]
              simp only [qjZ, List.getElem?_map, List.getElem?_range htn, Option.map_some]
              rw [show st.tm.lookup t = some v from ht]; rfl
            obtain ⟨u, g1, g2⟩ := VRs.get h2.ex hg
            have g1' : (cx.xs ++ a.tmps.toList)[st.ex.length + t]? = some u := g1
            rw [List.getElem?_append_right (by omega), ← hxl, Nat.add_sub_cancel_left, Array.getElem?_toList] at g1'
            have e : a'.tmps.getD t undef = u := by rw [ha, Array.getD_eq_getD_getElem?, g1']; rfl
            rw [e]; exact (q3P w' L' ds hp' I').v (V.free_none v) g2
          ex := (q3P w' L' ds hp' I').vs (qgB _) (VRs.left hxl h2.ex)
          defers := hd
          kp := hk
          mks := hm
          size := by rw [ha]; exact h.size }
def zd0 (P : Program) (n : Nat) (assign body : Code) (tm : List (Nat × V)) (ex : List V) (hp hp' : List (Nat × Blk)) : Prop :=
  ∀ cx : Cx, cx.n = n → AW P cx assign ⟨tm, hp, ex⟩ fun e s => e = .normal ∧
    ∀ cx' : Cx, cx'.n = n → AW P cx' body s fun e s' => e = .normal ∧ (∀ k b, hp'.lookup k = some b → s'.hp.lookup k = some b) ∧ s'.ex = ex
structure zpD (r : Loop) (n : Nat) (ps : Array Tmp) (assign body : Code) : Prop where
  st : r.state = .ready
  pd : r.pending = none
  asg : r.assign = assign
  bd : r.body = body
  ps : r.params = ps
  n : r.tmps.size = n
theorem zu5 {w0 : World} {I0 : Nat → Nat → Prop} {xs : List Value} {exs : List V} {ks : List (Nat × Obj)} {l n m : Nat} {rec : Loop} {fn : FuncId} {ps : Array Tmp} {assign body : Code} {hp hp' : List (Nat × Blk)} {tm : List (Nat × V)} {tmps : Array Value}
    (hr : zpD rec n ps assign body) (hl : w0.heap.size ≤ l) (h : SimD ⟨w0, I0, xs, 0, none, (l, .loop rec) :: ks⟩ L I ⟨[], hp, exs⟩ a00 w) (hsz : tmps.size = n)
    (htm : ∀ t v, tm.lookup t = some v → VR w L hp I (tmps.getD t undef) v ∧ t < n) (hR : zd0 P n assign body tm exs hp hp') :
    RoundIn (qqC none) m P l fn tmps assign body w fun e w' => e = .returned (.bool true) ∧ ∃ L' I', SimD ⟨w0, I0, xs, 0, none, (l, .loop rec) :: ks⟩ L' I' ⟨[], hp', exs⟩ a00 w' := by
  refine roundIn_of_wpIn trivial ?_
  have h0 : SimD ⟨w0, I0, xs, n, some l, (l, .loop rec) :: ks⟩ L I ⟨tm, hp, exs⟩ { tmps := tmps, defers := [] } w :=
    { below := h.below
      i0 := h.i0
      i1 := h.i1
      ib := h.ib
      inj := h.inj
      hp := h.hp
      tm := htm
      ex := h.ex
      defers := h.defers
      kp := h.kp
      mks := h.mks
      size := hsz }
  have hA := hR ⟨w0, I0, xs, n, some l, (l, .loop rec) :: ks⟩ rfl _ w ⟨L, I, h0⟩
  refine wpIn_mono (zlS hA) fun e a1 w1 ⟨s, hq, L1, I1, h1⟩ => ?_
  obtain ⟨rfl, hB⟩ := hq
  have hg : w1.heap[l]? = some (.loop rec) := (h1.kp.2 (l, .loop rec) (List.mem_cons_self ..)).1
  refine ⟨_, run_beginRound hg hr.st, ?_⟩
  have h2 := h1.putRec (rd' := some l) (r' := .loop { rec with state := .busy }) hl (fun _ _ _ e => by cases e)
  refine wpIn_mono (zlS (hB _ rfl _ _ ⟨_, _, h2⟩)) fun e a3 w3 ⟨s', hq', L3, I3, h3⟩ => ?_
  obtain ⟨rfl, hhp, hex⟩ := hq'
  have hg3 : w3.heap[l]? = some (.loop { rec with state := .busy }) := (h3.kp.2 (l, .loop { rec with state := .busy }) (List.mem_cons_self ..)).1
  have he := run_endRound (P := P) none hg3
  have h4 := (h3.putRec (rd' := none) (r' := .loop rec) hl (fun _ _ _ e => by cases e)).sub (st' := ⟨[], hp', exs⟩) (fun t v ht => by simp at ht) hhp hex.symm
  have hrec : ({ { rec with state := LoopState.busy } with state := if (none : Option Code).isNone then .ready else .done, pending := none } : Loop) = rec := by
    have := hr.st; have := hr.pd
    cases rec; simp_all
  rw [hrec] at he
  refine ⟨_, _, he, rfl, { L3 with ds := [] }, I3, ?_⟩
  have k3 := q3P (w3.putObj l (.loop rec)) L3 [] hp' I3
  exact {
    below := h4.below
    i0 := h4.i0
    i1 := h4.i1
    ib := h4.ib
    inj := h4.inj
    hp := fun j b hb => BR.keep k3 (h4.hp j b hb) (Blk.free_none _) rfl rfl rfl (fun o ho => ho)
    tm := fun t v ht => by simp at ht
    ex := k3.vs (qgB _) h4.ex
    defers := rfl
    kp := h4.kp
    mks := ⟨List.nodup_nil, fun _ h => by cases h⟩
    size := rfl }
def q53 : List Tmp → List V → List (Nat × V) → List (Nat × V)
  | p :: ps, v :: vs, tm => q53 ps vs ((p, v) :: tm)
  | _, _, tm => tm
theorem zqZ {H : List (Nat × Blk)} {n : Nat} : ∀ (ps : List Tmp) (us : List Value) (vs : List V) (tm : List (Nat × V)) (tmps : Array Value), tmps.size = n → (∀ p ∈ ps, p < n) → VRs w L H I us vs → ps.length = vs.length →
    (∀ t v, tm.lookup t = some v → VR w L H I (tmps.getD t undef) v ∧ t < n) →
    ((ps.zip us).foldl (fun (tmps : Array Value) (x : Tmp × Value) => tmps.setIfInBounds x.1 x.2) tmps).size = n ∧
      ∀ t v, (q53 ps vs tm).lookup t = some v → VR w L H I (((ps.zip us).foldl (fun (tmps : Array Value) (x : Tmp × Value) => tmps.setIfInBounds x.1 x.2) tmps).getD t undef) v ∧ t < n
  | [], _, _, tm, tmps, hn, _, _, _, h => ⟨by simpa using hn, by simpa [q53] using h⟩
  | p :: ps, [], v :: vs, _, _, _, _, hv, _, _ => hv.elim
  | p :: ps, [], [], _, _, _, _, _, hl, _ => by simp at hl
  | p :: ps, u :: us, [], _, _, _, _, hv, _, _ => hv.elim
  | p :: ps, u :: us, v :: vs, tm, tmps, hn, hp, hv, hl, h => by
    have := zqZ ps us vs ((p, v) :: tm) (tmps.setIfInBounds p u) (by simpa using hn) (fun q hq => hp q (List.mem_cons_of_mem _ hq)) hv.2 (by simpa using hl) (fun t x ht => by
      rw [qcV] at ht
      have hpn' : p < n := hp p (List.mem_cons_self ..)
      have hpn : p < tmps.size := by rw [hn]; exact hpn'
      split at ht
      · rename_i e; subst e; cases ht
        refine ⟨?_, hpn'⟩
        have e : (tmps.setIfInBounds t u).getD t undef = u := by simp [hpn]
        rw [e]; exact hv.1
      · rename_i hne
        obtain ⟨h1, h2⟩ := h t x ht
        refine ⟨?_, h2⟩
        have e : (tmps.setIfInBounds p u).getD t undef = tmps.getD t undef := by simp [Array.getElem?_setIfInBounds_ne (Ne.symm hne)]
        rw [e]; exact h1)
    simpa only [List.zip_cons_cons, List.foldl_cons, q53] using this
theorem zr9 (ps : Array Tmp) (args : Array Value) (tmps : Array Value) : (ps.zip args).foldl (fun tmps (x : Tmp × Value) => tmps.setIfInBounds x.1 x.2) tmps = (ps.toList.zip args.toList).foldl (fun tmps x => tmps.setIfInBounds x.1 x.2) tmps := by
  rw [← Array.foldl_toList, Array.toList_zip]
theorem zjY {x : Operand} {args : List Operand} {tys : Array TypeId} {l : Nat} {rec : Loop} (ho : o.op = .call { callee := .value x, args := args.toArray, argTypes := tys }) (hx : a.eval x = .func (.yield l) #[] #[])
    (hg : w.heap[l]? = some (.loop rec)) (hs : args.length = rec.params.size) :
    (execOp a.eval o).run P w = .ok (.round l rec.fn ((rec.params.toList.zip (args.map a.eval)).foldl (fun (tmps : Array Value) (x : Tmp × Value) => tmps.setIfInBounds x.1 x.2) rec.tmps) rec.assign rec.body) w := by
  have hy := run_yield (P := P) (args := (args.map a.eval).toArray) hg (by simpa using hs)
  have hz := zr9 rec.params (args.map a.eval).toArray rec.tmps
  simp only [execOp, ho, resolve, hx, Deferred.ofValue, Sem.run_bind, Sem.run_pure, Result.andThen_ok, invoke]
  simp only [List.map_toArray, List.append_toArray] at hy ⊢
  rw [← hz]
  simpa using hy
def q4L (P : Program) (f : FuncId) (caps : List V) (n : Nat) (ps : Array Tmp) (assign body : Code) (tm : List (Nat × V)) (hp hp' : List (Nat × Blk)) : Prop :=
  ∀ (w0 : World) (I0 : Nat → Nat → Prop) (ks : List (Nat × Obj)) (l : Nat) (rec : Loop) (L : Loc) (I : Nat → Nat → Prop) (w : World) (vs : List Value),
    zpD rec n ps assign body → w0.heap.size ≤ l → (∀ t v, tm.lookup t = some v → t < n) →
    SimD ⟨w0, I0, rec.tmps.toList, 0, none, (l, .loop rec) :: ks⟩ L I ⟨[], hp, qjZ n tm⟩ a00 w → VRs w L hp I vs caps →
    Calls P f (#[.func (.yield l) #[] #[]] ++ vs.toArray) w fun e w' => ∃ v L' I', e = .returned v ∧
      SimD ⟨w0, I0, rec.tmps.toList, 0, none, (l, .loop rec) :: ks⟩ L' I' ⟨[], hp', qjZ n tm⟩ a00 w'
theorem zn9 {f : FuncId} (hc : qjV P f = true) (args : Array Value) (w : World) : (callFunc f args).run P w = .ok (.enter f args) w := by
  unfold qjV at hc
  split at hc
  · rename_i fn hfn
    simp only [Bool.and_eq_true, Bool.not_eq_true', Option.isSome_iff_ne_none] at hc
    have hb : fn.body.isNone = false := by cases hbb : fn.body <;> simp_all
    simp only [Sem.run_bind, Result.andThen_ok, callFunc, run_program, hfn, hc.1, hb]
    simp
  · cases hc
theorem SimD.grow (h : SimD cx L I st a w) (o : Obj) : SimD cx L I st a (w.alloc o) :=
  h.after ((Below.refl _ w).alloc (Nat.le_refl _) o) (fun _ _ h => h) (fun _ _ h => .inl h) (fun b o' hb => by have := h.ib b o' hb; simp; omega)
theorem zv4 {Q : Exit → St → Prop} {g : Operand} {ps : Array Tmp} {assign body : Code} {f : FuncId} {caps : List Cap} {hp' : List (Nat × Blk)} (hrd : cx.rd = none) (hg : fnOf (st.ev g) = some (f, caps)) (hc : qjV P f = true)
    (hex : st.ex = []) (hit : q4L P f (caps.map capV) cx.n ps assign body st.tm st.hp hp') (hQ : Q .normal { st with hp := hp' }) : AW P cx (.rangeFunc g ps assign body) st Q := fun a w hs => by
  obtain ⟨L, I, h⟩ := hs
  obtain ⟨cs, hf, hcs⟩ := zxC (h.ev g) hg
  refine wpIn_rangeFunc fun fn _ => ?_
  obtain ⟨rec, hrec⟩ : ∃ rec : Loop, rec = { state := .ready, pending := none, fn, tmps := a.tmps, params := ps, assign, body, defers := w.heap.size } := ⟨_, rfl⟩
  obtain ⟨w1, hw1⟩ : ∃ w1, (w.alloc (.deferred (some []))).alloc (.loop rec) = w1 := ⟨_, rfl⟩
  have hround : (qqC cx.rd).round = none := hrd
  rw [hround]
  have hl1 : w1.heap[w.heap.size + 1]? = some (.loop rec) := by
    rw [← hw1]; have := World.alloc_heap_new (w.alloc (.deferred (some []))) (.loop rec); rwa [World.size_alloc] at this
  have hk1 : w1.heap[w.heap.size]? = some (.deferred (some [])) := by
    rw [← hw1]; exact (Below.heap_alloc _ _ _ (by simp)).trans (World.alloc_heap_new w _)
  have old : ∀ k o, w.heap[k]? = some o → w1.heap[k]? = some o := fun k o hk => by
    have hlt := (Array.getElem?_eq_some_iff.1 hk).1
    rw [← hw1]; exact ((Below.heap_alloc _ _ _ (by simp; omega)).trans (Below.heap_alloc _ _ _ hlt)).trans hk
  have h1 : SimD cx L I st a w1 := by rw [← hw1]; exact (h.grow _).grow _
  obtain ⟨ks, hks⟩ : ∃ ks : List (Nat × Obj), ks = (w.heap.size, .deferred (some [])) :: (cx.ks ++ zdQ L.ds) := ⟨_, rfl⟩
  have hkm := zcM h
  have hkp : zoU ((w.heap.size + 1, .loop rec) :: ks) w1 := by
    have hlt : ∀ p ∈ cx.ks ++ zdQ L.ds, p.1 < w.heap.size := fun p hp => (Array.getElem?_eq_some_iff.1 (hkm.2 p hp).1).1
    refine ⟨?_, fun p hp => ?_⟩
    · rw [hks]
      simp only [List.map_cons, List.nodup_cons, List.mem_cons, List.mem_map, not_or, not_exists, not_and]
      refine ⟨⟨by omega, fun p hp e => ?_⟩, ⟨fun p hp e => ?_, hkm.1⟩⟩
      · have := hlt p hp; omega
      · have := hlt p hp; omega
    · rw [hks] at hp
      rcases List.mem_cons.1 hp with rfl | hp
      · exact ⟨hl1, fun _ _ _ e => by cases e⟩
      · rcases List.mem_cons.1 hp with rfl | hp
        · exact ⟨hk1, fun _ _ _ e => by cases e⟩
        · exact ⟨old _ _ (hkm.2 p hp).1, (hkm.2 p hp).2⟩
  have h2 := h1.bare hkp
  have hxs : cx.xs = [] := by
    have := VRs.length h.ex
    rw [hex] at this
    exact List.eq_nil_of_length_eq_zero this
  rw [hxs, hex, List.nil_append, List.nil_append] at h2
  have htmps : rec.tmps = a.tmps := by rw [hrec]
  have hrok : zpD rec cx.n ps assign body := by rw [hrec]; exact ⟨rfl, rfl, rfl, rfl, rfl, h.size⟩
  have hcall := hit cx.w0 cx.I0 ks (w.heap.size + 1) rec { L with ds := [] } I w1 cs.toList hrok (by have := h.below.size; omega) (fun t v ht => (h.tm t v ht).2)
    (by rw [htmps]; exact h2) ((q3P w1 L [] st.hp I).vs (qgB _) (by
      have hk : Keep none w w1 L L st.hp st.hp I I := ⟨fun _ _ h => h, fun b o hb => by
        have hlt := h.ib b o hb
        rw [← hw1]
        exact (World.cell?_alloc_lt _ _ ⟨b, o, none⟩ (by simp; omega)).trans (World.cell?_alloc_lt _ _ ⟨b, o, none⟩ hlt), fun j _ hs => ⟨hs, rfl⟩, fun j e sz es fz _ hl => ⟨es, fz, hl, Nat.le_refl _, rfl⟩⟩
      exact hk.vs (qgB _) hcs))
  refine ⟨w.heap.size + 1, [{ target := .collected w.heap.size, args := #[] }], w1, { target := .fn (.func f) cs, args := #[.func (.yield (w.heap.size + 1)) #[] #[]] }, w1, f,
    #[.func (.yield (w.heap.size + 1)) #[] #[]] ++ cs, w1, ?_, ?_, fun _ _ => trivial, ?_, fun hd => by simp [qqC, Fence.wide] at hd, ?_⟩
  · rw [← hw1, hrec]; exact run_enterLoop_outer _ _ _ _ _
  · simp only [resolve, hf]
    simp [go_sem, Deferred.ofValue]
  · simp only [invoke]; exact zn9 hc _ _
  · rw [show cs.toList.toArray = cs by simp] at hcall
    refine zaR (Calls.mono hcall fun e w3 he => ?_)
    obtain ⟨v, L', I', rfl, h3⟩ := he
    have hg3 : w3.heap[w.heap.size + 1]? = some (.loop rec) := (h3.kp.2 (w.heap.size + 1, .loop rec) (List.mem_cons_self ..)).1
    have hend := run_endLoop (P := P) hg3 (by rw [hrok.st]; simp)
    rw [hrok.pd] at hend
    refine ⟨none, _, hend, ?_⟩
    have h4 := h3.putRec (rd' := none) (r' := .loop { rec with state := .exhausted, pending := none }) (by have := h.below.size; show cx.w0.heap.size ≤ _; omega) (fun _ _ _ e => by cases e)
    refine ⟨{ st with hp := hp' }, hQ, { L' with ds := w.heap.size :: L.ds }, I', ?_⟩
    have hkeep : ∀ p ∈ ks, (w3.putObj (w.heap.size + 1) (.loop { rec with state := .exhausted, pending := none })).heap[p.1]? = some p.2 ∧ ∀ c t r, p.2 ≠ .cells c t r := fun p hp => h4.kp.2 p (List.mem_cons_of_mem _ hp)
    have h5 : SimD ⟨cx.w0, cx.I0, cx.xs ++ a.tmps.toList, 0, none, (w.heap.size + 1, .loop { rec with state := .exhausted, pending := none }) :: ks⟩ L' I' ⟨[], hp', st.ex ++ qjZ cx.n st.tm⟩ a00 (w3.putObj (w.heap.size + 1) (.loop { rec with state := .exhausted, pending := none })) := by
      have e : cx.xs ++ a.tmps.toList = rec.tmps.toList := by rw [hxs, htmps]; rfl
      have e2 : st.ex ++ qjZ cx.n st.tm = qjZ cx.n st.tm := by rw [hex]; rfl
      rw [e, e2]; exact h4
    refine h.unbare h5 rfl ?_ ?_ ?_
    · rw [show ({ a with defers := _ } : Act).defers = _ from rfl, h.defers]; rfl
    · exact ⟨h.kp.1, fun p hp => hkeep p (by rw [hks]; exact List.mem_cons_of_mem _ (List.mem_append_left _ hp))⟩
    · refine ⟨List.nodup_cons.2 ⟨fun hm => ?_, h.mks.1⟩, fun D hD => ?_⟩
      · have := (Array.getElem?_eq_some_iff.1 (h.mks.2 _ hm).1).1; omega
      · rcases List.mem_cons.1 hD with rfl | hD
        · refine ⟨(hkeep (w.heap.size, .deferred (some [])) (by rw [hks]; exact List.mem_cons_self ..)).1, h.below.size, fun p hp e => ?_⟩
          have := (Array.getElem?_eq_some_iff.1 (h.kp.2 p hp).1).1; omega
        · exact ⟨(hkeep (D, .deferred (some [])) (by rw [hks]; exact List.mem_cons_of_mem _ (List.mem_append_right _ (List.mem_map.2 ⟨D, hD, rfl⟩)))).1, (h.mks.2 D hD).2⟩
theorem zpL {ops : Array Oper} {rest : List Oper} {R : St → Prop} {x : Operand} {args : List Operand} {tys : Array TypeId} {l n d : Nat} {rec : Loop} {ks : List (Nat × Obj)} {ps : Array Tmp} {assign body : Code} {hp' : List (Nat × Blk)}
    {tm tk : List (Nat × V)} (hgd : o.guard = none) (ho : o.op = .call { callee := .value x, args := args.toArray, argTypes := tys }) (hd : o.dst = some d) (hx : st.ev x = .c (.yd l)) (hcx : cx.ks = (l, .loop rec) :: ks)
    (hr : zpD rec n ps assign body) (hl : cx.w0.heap.size ≤ l) (hxs : cx.xs = rec.tmps.toList) (hex : st.ex = qjZ n tm) (htmn : ∀ t v, tm.lookup t = some v → t < n)
    (hps : ps.size = args.length) (hpn : ∀ p ∈ ps.toList, p < n) (htk : ∀ t v, tk.lookup t = some v → st.tm.lookup t = some v) (hR : zd0 P n assign body (q53 ps.toList (args.map st.ev) tm) (qjZ n tm ++ qjZ cx.n tk) st.hp hp')
    (hN : qm6 P cx ops rest (({ tm := tk, hp := hp', ex := st.ex } : St).put d (.c (.t (.bool true)))) R) : qm6 P cx ops (o :: rest) st R := fun hds a w hs Q hQ => by
  refine wpListIn_plain hgd fun K hK => ?_
  obtain ⟨L, I, h⟩ := hs
  refine ⟨fun _ _ => trivial, ?_⟩
  rw [Oper.semAt_eq _ _ _ (fun c e => by rw [ho] at e; cases e)]
  have hxv : a.eval x = .func (.yield l) #[] #[] := by have := h.ev x; rw [hx] at this; exact this
  have hg : w.heap[l]? = some (.loop rec) := (h.kp.2 (l, .loop rec) (by rw [hcx]; exact List.mem_cons_self ..)).1
  have hrun := zjY (P := P) (w := w) ho hxv hg (by rw [hr.ps]; exact hps.symm)
  rw [hrun, Oper.uponIn_round, hr.asg, hr.bd, hr.ps]
  have hkm := zcM h
  rw [hcx] at hkm
  have h' : SimD cx L I { st with tm := tk } a w := h.sub htk (fun _ _ h => h) rfl
  have hb := h'.bare hkm
  have hex' := h.ex
  rw [hxs, hex] at hex'
  have htm0 : ∀ t v, tm.lookup t = some v → VR w L st.hp I (rec.tmps.getD t undef) v ∧ t < n := fun t v ht => by
    have htn := htmn t v ht
    refine ⟨?_, htn⟩
    have hg' : (qjZ n tm)[t]? = some v := by
      simp only [qjZ, List.getElem?_map, List.getElem?_range htn, Option.map_some]
      rw [ht]; rfl
    obtain ⟨u, g1, g2⟩ := VRs.get hex' hg'
    rw [Array.getElem?_toList] at g1
    have e : rec.tmps.getD t undef = u := by rw [Array.getD_eq_getD_getElem?, g1]; rfl
    rw [e]; exact g2
  have hpa := zqZ ps.toList (args.map a.eval) (args.map st.ev) tm rec.tmps hr.n hpn (zvO h args) (by simpa using hps) htm0
  have kb := q3P w L [] st.hp I
  have hb2 : SimD ⟨cx.w0, cx.I0, cx.xs ++ a.tmps.toList, 0, none, (l, .loop rec) :: (ks ++ zdQ L.ds)⟩ { L with ds := [] } I ⟨[], st.hp, qjZ n tm ++ qjZ cx.n tk⟩ a00 w := by rw [← hex]; exact hb
  refine ⟨fun hd => by simp [qqC, Fence.wide] at hd, RoundIn.mono (zu5 (fn := rec.fn) hr hl hb2 hpa.1 (fun t v ht => ⟨kb.v (V.free_none v) (hpa.2 t v ht).1, (hpa.2 t v ht).2⟩) hR) fun e w' he => ?_⟩
  obtain ⟨rfl, L', I', h2⟩ := he
  rw [hd]
  have h3 : SimD cx { L' with ds := L.ds } I' { tm := tk, hp := hp', ex := st.ex } a w' := h'.unbare (by rw [← hex] at h2; exact h2) rfl h.defers
    ⟨h.kp.1, fun p hp => h2.kp.2 p (by rw [hcx] at hp; exact List.mem_append_left (zdQ L.ds) hp)⟩
    ⟨h.mks.1, fun D hD => ⟨(h2.kp.2 (D, .deferred (some [])) (List.mem_cons_of_mem _ (List.mem_append_right _ (List.mem_map.2 ⟨D, hD, rfl⟩)))).1, (h.mks.2 D hD).2⟩⟩
  exact hK _ _ (hN (fun o ho => hds o (List.mem_cons_of_mem _ ho)) _ w' ⟨_, _, h3.put (v := .c (.t (.bool true))) (val := .bool true) (.bool true) ((hds o (List.mem_cons_self ..)).2 d hd)⟩ Q hQ)
theorem ztA {t : TypeId} {j d : Nat} {z : Value} {zs : List C} (ho : o.op = .alloc t) (hd : o.dst = some d) (hz : (P.info? t).bind (·.zero) = some z)
    (hz1 : z.cells.all (·.oneCell') = true) (hzs : z.cells.toList.map qpG = zs) (hf : st.free j = true) : OpOK P cx o st ((st.addB j (.var zs)).put d (.c (.ptr j 0))) := by
  intro hd' a w hs K Q hK
  obtain ⟨L, I, h⟩ := hs
  have hr : CRs w L st.hp I z.cells.toList zs := hzs ▸ qw8 w L st.hp I _ fun v hv => by
    have := Array.all_eq_true_iff_forall_mem.1 hz1 v (by simpa using hv); exact this
  have hcf : qpF (some j) zs = true := by
    subst hzs
    generalize z.cells.toList = l
    induction l with
    | nil => rfl
    | cons v l ih =>
      simp only [List.map_cons, qpF, ih, Bool.and_true]
      exact zjO (some j) v
  have h2 := h.addVar (ty := t) hf hr hcf
  have hrun : (execOp a.eval o).run P w = .ok (.value (.pointer (some ⟨w.heap.size, 0, none⟩))) (w.alloc (.cells z.cells t)) := by
    simp [execOp, ho, Instr.alloc, zlQ hz, newVar, newRow]
  unfold Oper.wp
  rw [hrun]
  refine hK _ _ ?_
  have := ql9 (o := o) (v := .c (.ptr j 0)) (val := .pointer (some ⟨w.heap.size, 0, none⟩)) h2 (fun _ => by simp [Loc.set]) hd'
  rw [hd] at this ⊢
  exact this
def zzB (hp' : List (Nat × Blk)) (exs : List V) (e : Exit) (s : St) : Prop := (e = .ret ∨ e = .normal) ∧ (∀ k b, hp'.lookup k = some b → s.hp.lookup k = some b) ∧ s.ex = exs
def zyO (P : Program) (f : FuncId) : Bool := match P.funcs[f]? with | some fn => fn.results.toList.isEmpty | none => false
theorem zp1 {f : FuncId} {caps : List V} {n m : Nat} {ps : Array Tmp} {assign body : Code} {tm : List (Nat × V)} {hp hp' : List (Nat × Blk)} (hok : okFn P f m = true) (hres : zyO P f = true) (hl : caps.length + 1 ≤ m)
    (h : ∀ (cx : Cx) (l : Nat) (rec : Loop) (ks : List (Nat × Obj)), cx.n = m → cx.rd = none → cx.ks = (l, .loop rec) :: ks → zpD rec n ps assign body → cx.w0.heap.size ≤ l → cx.xs = rec.tmps.toList → (∀ t v, tm.lookup t = some v → t < n) →
      AW P cx (qm5 P f) ⟨idxV 0 (.c (.yd l) :: caps), hp, qjZ n tm⟩ (zzB hp' (qjZ n tm))) : q4L P f caps n ps assign body tm hp hp' := by
  unfold okFn at hok
  split at hok
  · rename_i fn hfn
    simp only [Bool.and_eq_true, beq_iff_eq] at hok
    obtain ⟨c, hc⟩ := Option.isSome_iff_exists.1 hok.1
    have hbody : qm5 P f = c := by unfold qm5; rw [hfn]; show fn.body.getD .skip = c; rw [hc]; rfl
    rw [hbody] at h
    intro w0 I0 ks l rec L I w vs hr hw htmn hs hvs
    refine callsIn_wide.1 (callsIn_of_wp_marks (n := 2) hfn hc trivial ?_)
    have hlen : vs.length = caps.length := VRs.length hvs
    have hn := hok.2
    have hsim : SimD ⟨w0, I0, rec.tmps.toList, m, none, (l, .loop rec) :: ks⟩ L I ⟨idxV 0 (.c (.yd l) :: caps), hp, qjZ n tm⟩
        { tmps := (#[(.func (.yield l) #[] #[] : Value)] ++ vs.toArray) ++ Array.replicate (fn.ntmps - (#[(.func (.yield l) #[] #[] : Value)] ++ vs.toArray).size) undef, defers := [] } w :=
      { below := hs.below
        i0 := hs.i0
        i1 := hs.i1
        ib := hs.ib
        inj := hs.inj
        hp := hs.hp
        tm := fun t v ht => by
          obtain ⟨_, h1⟩ := q7R _ 0 t v ht
          simp only [Nat.sub_zero] at h1
          have hvs2 : VRs w L hp I (.func (.yield l) #[] #[] :: vs) (.c (.yd l) :: caps) := ⟨rfl, hvs⟩
          obtain ⟨u, g1, g2⟩ := VRs.get hvs2 h1
          have htl : t < vs.length + 1 := by have := (List.getElem?_eq_some_iff.1 g1).1; simpa using this
          refine ⟨?_, by show t < m; omega⟩
          have : ((#[(.func (.yield l) #[] #[] : Value)] ++ vs.toArray) ++ Array.replicate (fn.ntmps - (#[(.func (.yield l) #[] #[] : Value)] ++ vs.toArray).size) undef).getD t undef = u := by
            have e1 : ((#[(.func (.yield l) #[] #[] : Value)] ++ vs.toArray) ++ Array.replicate (fn.ntmps - (#[(.func (.yield l) #[] #[] : Value)] ++ vs.toArray).size) undef)[t]? = some u := by
              rw [Array.getElem?_append_left (by simp; omega)]
              have : (#[(.func (.yield l) #[] #[] : Value)] ++ vs.toArray) = (.func (.yield l) #[] #[] :: vs).toArray := by simp
              rw [this]; simpa using g1
            simp only [Array.getD_eq_getD_getElem?, e1, Option.getD_some]
          rw [this]
          exact g2
        ex := hs.ex
        defers := hs.defers
        kp := hs.kp
        mks := hs.mks
        size := by simp [hn]; show _ = m; omega }
    refine wpIn_mono (h ⟨w0, I0, rec.tmps.toList, m, none, (l, .loop rec) :: ks⟩ l rec ks rfl rfl rfl hr hw rfl htmn _ w ⟨L, I, hsim⟩) ?_
    intro e a' w' ⟨s, hq, L', I', hs'⟩
    obtain ⟨he, hhp, hex⟩ := hq
    have fin : LeavesInM Fence.wide 2 P fn a'.tmps (fun e w' => ∃ v L' I', e = .returned v ∧ SimD ⟨w0, I0, rec.tmps.toList, 0, none, (l, .loop rec) :: ks⟩ L' I' ⟨[], hp', qjZ n tm⟩ a00 w') a'.defers .returning w' := by
      refine qzC L'.ds L' a' w' hs' rfl fun L' w' hs' hds _ _ => ?_
      have h2 : SimD ⟨w0, I0, rec.tmps.toList, m, none, (l, .loop rec) :: ks⟩ L' I' ⟨[], hp', qjZ n tm⟩ { a' with defers := [] } w' := hs'.sub (fun t v ht => by simp at ht) hhp hex.symm
      have hre : fn.results = #[] := by
        unfold zyO at hres
        rw [hfn] at hres
        simp only [List.isEmpty_iff] at hres
        rw [← Array.toArray_toList (xs := fn.results), hres]
      refine ⟨.tuple #[], results_none hre _ _ _, _, L', I', rfl, ?_⟩
      exact {
        below := h2.below
        i0 := h2.i0
        i1 := h2.i1
        ib := h2.ib
        inj := h2.inj
        hp := h2.hp
        tm := fun t v ht => by simp at ht
        ex := h2.ex
        defers := by rw [hds]; rfl
        kp := h2.kp
        mks := h2.mks
        size := rfl }
    rcases he with rfl | rfl
    · exact fin
    · exact fin
  · cases hok
end
open Go.RowKit (Below)
theorem zoV {P : Program} {f : FuncId} {n : Nat} {args : List TV} {res : TV} (hss : List (List Nat)) (hok : fnOk P f n = true) (hl : args.length ≤ n)
    (h : ∀ cx : Cx, cx.n = n → cx.rd = none → Wk P cx (qd8 P f hss res) [.code (qcS P f)] .normal (St.init args)) : qc7 P f args res := by
  unfold fnOk at hok
  split at hok
  · rename_i fn hfn
    simp only [Bool.and_eq_true, beq_iff_eq] at hok
    obtain ⟨c, hc⟩ := Option.isSome_iff_exists.1 hok.1
    refine zq6 hss hfn hc hok.2 hl fun cx hcx hrd => ?_
    have := qk4 (h cx hcx hrd).h
    have hbody : qcS P f = c := by unfold qcS; rw [hfn]; show fn.body.getD .skip = c; rw [hc]; rfl
    rw [hbody] at this
    intro a w hs
    refine wpIn_mono (this a w hs) fun e _ _ ⟨s, h1, h2⟩ => ⟨s, ?_, h2⟩
    have h1' : qd8 P f hss res e s := h1
    unfold qd8 at h1'
    rw [hfn] at h1'
    exact h1'
  · cases hok
theorem ztS {P : Program} {f g : FuncId} {n : Nat} {args : List TV} {cs : List T} (hok : okFn P f n = true) (hl : args.length ≤ n)
    (h : ∀ cx : Cx, cx.n = n → Wk P cx (zwD P f g cs) [.code (qm5 P f)] .normal (St.init args)) : zpF P f args g cs :=
  ztT hok hl fun cx hcx _ => by
    have := qk4 (h cx hcx).h
    intro a w hs
    exact this a w hs
def endC (P : Program) (f : FuncId) (s : St) : Option (FuncId × List C) := match endV P f s with
  | some (.c (.fn g [.ptr j 0])) => match s.hp.lookup j with
    | some (.var cs) => some (g, cs)
    | _ => none
  | _ => none
theorem zxW {P : Program} {cx : Cx} {f g : FuncId} {n' fuel : Nat} {cs : List T} {k : List Fr} {en : Exit} {st : St} (gs : List G) (φs : List Prop) (hn : cx.n = n')
    (h : (goX P n' fuel k en st gs).bind (fun q => match q.1, q.2.1 with | [], .ret => (endC P f q.2.2.1).map fun v => (v, q.2.2.2) | _, _ => none) = some ((g, cs.map .t), φs)) (hφ : AllP φs) : Wk P cx (zwD P f g cs) k en st := by
  refine ⟨?_⟩
  obtain ⟨⟨k', e', st', ψ⟩, h1, h2⟩ := Option.bind_eq_some_iff.1 h
  split at h2
  · rename_i hk he
    have hk : k' = [] := hk
    have he : e' = .ret := he
    subst hk; subst he
    obtain ⟨v, h3, h4⟩ := Option.map_eq_some_iff.1 h2
    cases h4
    have h3 : endC P f st' = some (g, cs.map .t) := h3
    unfold endC at h3
    split at h3
    · rename_i g' j hv
      split at h3
      · rename_i cs' hl
        cases h3
        exact ql3 hn h1 hφ ⟨.inl rfl, j, hv, hl⟩
      · cases h3
    · cases h3
  · cases h2
theorem zuS {P : Program} {cx : Cx} {F : Exit → St → Prop} {n : Nat} {k : List Fr} {st : St} {g : Operand} {ps : Array Tmp} {assign body : Code} {f : FuncId} {caps : List Cap} {hp' : List (Nat × Blk)} (hn : cx.n = n) (hrd : cx.rd = none)
    (hg : fnOf (st.ev g) = some (f, caps)) (hc : qjV P f = true) (hex : st.ex = []) (hit : q4L P f (caps.map capV) n ps assign body st.tm st.hp hp') (hr : Wk P cx F k .normal { st with hp := hp' }) :
    Wk P cx F (.code (.rangeFunc g ps assign body) :: k) .normal st := ⟨by
  subst hn
  exact (zv4 hrd hg hc hex hit hr.h : AW P cx (.rangeFunc g ps assign body) st (AWk P cx F k))⟩
def zwE (hp' : List (Nat × Blk)) (ex : List V) (e : Exit) (s : St) : Prop := e = .normal ∧ (∀ k b, hp'.lookup k = some b → s.hp.lookup k = some b) ∧ s.ex = ex
theorem zoC {P : Program} {n : Nat} {assign body : Code} {tm : List (Nat × V)} {ex : List V} {hp hp' : List (Nat × Blk)}
    (h : ∀ cx : Cx, cx.n = n → Wk P cx (fun e s => e = .normal ∧ ∀ cx' : Cx, cx'.n = n → Wk P cx' (zwE hp' ex) [.code body] .normal s) [.code assign] .normal ⟨tm, hp, ex⟩) : zd0 P n assign body tm ex hp hp' := fun cx hcx => by
  have := qk4 (h cx hcx).h
  intro a w hs
  refine wpIn_mono (this a w hs) fun e _ _ ⟨s, h1, h2⟩ => ⟨s, ⟨h1.1, fun cx' hn' => ?_⟩, h2⟩
  have h3 := qk4 (h1.2 cx' hn').h
  intro a w hs
  exact h3 a w hs
theorem zwM {P : Program} {cx : Cx} {F : Exit → St → Prop} {e : Exit} {st : St} (h : F e st) : Wk P cx F [] e st := ⟨h⟩
def rdEnd (ks : List Nat) (r : List Fr × Exit × St × List Prop) : Option (List (Nat × Blk) × List V × List Prop) := match r.1, r.2.1 with
  | [], .normal => (ks.mapM fun k => (r.2.2.1.hp.lookup k).map fun b => (k, b)).map fun H => (H, r.2.2.1.ex, r.2.2.2)
  | _, _ => none
theorem ziH {H : List (Nat × Blk)} : ∀ {ks : List Nat} {H' : List (Nat × Blk)}, (ks.mapM fun k => (H.lookup k).map fun b => (k, b)) = some H' → ∀ k b, H'.lookup k = some b → H.lookup k = some b
  | [], H', h, k, b, hl => by cases h; simp at hl
  | q :: ks, H', h, k, b, hl => by
    simp only [List.mapM_cons, Option.bind_eq_bind, Option.bind_eq_some_iff, Option.map_eq_some_iff] at h
    obtain ⟨p, ⟨c, h1, rfl⟩, H2, h2, h3⟩ := h
    cases h3
    rw [qcV] at hl
    split at hl
    · rename_i e; subst e; cases hl; exact h1
    · exact ziH h2 k b hl
theorem wk_rd {P : Program} {cx : Cx} {hp' : List (Nat × Blk)} {ex : List V} {n fuel : Nat} {k : List Fr} {e : Exit} {st : St} (ks : List Nat) (gs : List G) (φs : List Prop) (hn : cx.n = n)
    (h : (goX P n fuel k e st gs).bind (rdEnd ks) = some (hp', ex, φs)) (hφ : AllP φs) : Wk P cx (zwE hp' ex) k e st := by
  refine ⟨?_⟩
  obtain ⟨⟨k', e', st', ψ⟩, h1, h2⟩ := Option.bind_eq_some_iff.1 h
  unfold rdEnd at h2
  split at h2
  · rename_i hk he
    have hk : k' = [] := hk
    have he : e' = .normal := he
    subst hk; subst he
    obtain ⟨H, h3, h4⟩ := Option.map_eq_some_iff.1 h2
    cases h4
    exact ql3 hn h1 hφ ⟨rfl, ziH h3, rfl⟩
  · cases h2
def asEnd (ts js : List Nat) (r : List Fr × Exit × St × List Prop) : Option (St × List Prop) := match r.1, r.2.1 with
  | [], .normal => some (r.2.2.1.keep ts js, r.2.2.2)
  | _, _ => none
theorem wk_as {P : Program} {cx : Cx} {F' : Exit → St → Prop} {body : Code} {n fuel : Nat} {k : List Fr} {e : Exit} {st s1 : St} (ts js : List Nat) (gs : List G) (φs : List Prop) (hn : cx.n = n)
    (h : (goX P n fuel k e st gs).bind (asEnd ts js) = some (s1, φs)) (hφ : AllP φs) (hr : ∀ cx' : Cx, cx'.n = n → Wk P cx' F' [.code body] .normal s1) :
    Wk P cx (fun e s => e = .normal ∧ ∀ cx' : Cx, cx'.n = n → Wk P cx' F' [.code body] .normal s) k e st := by
  refine ⟨?_⟩
  obtain ⟨⟨k', e', st', ψ⟩, h1, h2⟩ := Option.bind_eq_some_iff.1 h
  unfold asEnd at h2
  split at h2
  · rename_i hk he
    have hk : k' = [] := hk
    have he : e' = .normal := he
    subst hk; subst he
    cases h2
    refine ql3 hn h1 hφ ⟨rfl, fun cx' hn' => ⟨?_⟩⟩
    exact preCW (is := [.keep ts js]) (φs := []) rfl trivial (hr cx' hn').h
  · cases h2
def itEx (l : Nat) (t5 t6 t7 : T) : List V := qjZ 20 [(0, .c (.yd l)), (5, .c (.t t5)), (6, .c (.t t6)), (7, .c (.t t7))]
structure RW (P : Program) (cx : Cx) (ops : Array Oper) (l : List Oper) (st : St) (R : St → Prop) : Prop where
  h : qm6 P cx ops l st R
section
variable {P : Program} {cx : Cx} {o : Oper} {ops : Array Oper} {l : List Oper} {st st' : St} {R : St → Prop}
theorem zwZ {is : List I} {φs : List Prop} (h : seqX P ops is l st = some (st', φs)) (hφ : AllP φs) (hr : R st') : RW P cx ops l st R := ⟨qj4 h hφ hr⟩
theorem rw_op (hg : o.guard = none) (ho : OpOK P cx o st st') (hr : RW P cx ops l st' R) : RW P cx ops (o :: l) st R := ⟨q2N hg ho hr.h⟩
theorem zsY {v : V} {d : Nat} (hg : o.guard = none) (hd : o.dst = some d) (hy : qe2 P cx o st v) (hr : RW P cx ops l (st.put d v) R) : RW P cx ops (o :: l) st R := ⟨q2N hg (zoN hy) (by rw [hd]; exact hr.h)⟩
theorem zs0 {t : TypeId} {j d : Nat} {z : Value} {zs : List C} (hg : o.guard = none) (ho : o.op = .alloc t) (hd : o.dst = some d) (hz : (P.info? t).bind (·.zero) = some z) (hz1 : z.cells.all (·.oneCell') = true) (hzs : z.cells.toList.map qpG = zs) (hf : st.free j = true)
    (hr : RW P cx ops l ((st.addB j (.var zs)).put d (.c (.ptr j 0))) R) : RW P cx ops (o :: l) st R := rw_op hg (ztA ho hd hz hz1 hzs hf) hr
theorem zu2 {t : TypeId} {p x : Operand} {j k n : Nat} {cs xs : List C} (hg : o.guard = none) (ho : o.op = .store t p x) (hd : o.dst = none) (hp : st.ev p = .c (.ptr j k)) (hj : st.hp.lookup j = some (.var cs)) (hx : (st.ev x).cellsL st.hp = some xs) (h1 : xs.length = n)
    (hn : (P.info? t).map (·.size) = some n) (h2 : k + n ≤ cs.length) (hr : RW P cx ops l (st.addB j (.var (qdH cs k xs))) R) : RW P cx ops (o :: l) st R := rw_op hg (zm4 ho hd hp hj hx h1 hn h2) hr
theorem zwY (ht : ∀ t v, st'.tm.lookup t = some v → st.tm.lookup t = some v) (hp : ∀ j b, st'.hp.lookup j = some b → st.hp.lookup j = some b) (he : st'.ex = st.ex) (hr : RW P cx ops l st' R) : RW P cx ops l st R :=
  ⟨qrM (fun _ _ ⟨L, I, hs⟩ => ⟨L, I, hs.sub ht hp he⟩) hr.h⟩
theorem rw_nil (h : R st) : RW P cx ops [] st R := ⟨zs2 h⟩
theorem zsZ {l' : List Oper} (e : l = l') (h : RW P cx ops l' st R) : RW P cx ops l st R := e ▸ h
theorem zu1 {x : Operand} {args : List Operand} {tys : Array TypeId} {lp n d m : Nat} {rec : Loop} {ks : List (Nat × Obj)} {ps : Array Tmp} {assign body : Code} {hp' : List (Nat × Blk)}
    {tm tk : List (Nat × V)} {es : List V} (hgd : o.guard = none) (ho : o.op = .call { callee := .value x, args := args.toArray, argTypes := tys }) (hd : o.dst = some d) (hx : st.ev x = .c (.yd lp)) (hcx : cx.ks = (lp, .loop rec) :: ks)
    (hr : zpD rec n ps assign body) (hl : cx.w0.heap.size ≤ lp) (hxs : cx.xs = rec.tmps.toList) (hex : st.ex = qjZ n tm) (htmn : ∀ t v, tm.lookup t = some v → t < n)
    (hps : ps.size = args.length) (hpn : ∀ p ∈ ps.toList, p < n) (htk : ∀ t v, tk.lookup t = some v → st.tm.lookup t = some v) (hes : args.map st.ev = es) (hm : cx.n = m) (hR : zd0 P n assign body (q53 ps.toList es tm) (qjZ n tm ++ qjZ m tk) st.hp hp')
    (hN : RW P cx ops l (({ tm := tk, hp := hp', ex := st.ex } : St).put d (.c (.t (.bool true)))) R) : RW P cx ops (o :: l) st R :=
  ⟨zpL hgd ho hd hx hcx hr hl hxs hex htmn hps hpn htk (by rw [hes, hm]; exact hR) hN.h⟩
end
theorem zwL {P : Program} {cx : Cx} {F : Exit → St → Prop} {n id : Nat} {l : List Oper} {c : Code} {k : List Fr} {st : St} (hc : c = .region id l.toArray false) (hn : cx.n = n) (hd : q3Y n l = true)
    (h : RW P cx l.toArray l st fun s => Wk P cx F k .normal s) : Wk P cx F (.code c :: k) .normal st := ⟨by
  subst hc
  exact (zo9 hn hd (fun hds a w hs Q hQ => h.h hds a w hs Q fun st' a' w' hR hs' => hQ st' a' w' hR.h hs') : AW P cx (.region id l.toArray false) st (AWk P cx F k))⟩
theorem zxY {P : Program} {cx : Cx} {F : Exit → St → Prop} {n id : Nat} {l l' : List Oper} {c : Code} {k : List Fr} {st st' : St} {hs : List H} {φ : List Prop} (hc : c = .region id l.toArray true) (hmix : P.follows .mixedOrders = true) (hn : cx.n = n) (hd : q3Y n l = true)
    (h : (zpN P l.toArray hs l st).map (fun r => (zmD l.toArray r.1 && decide (r.1.length ≤ l.length) && r.1.all (fun i => i.fresh.isEmpty), r.2)) = some (true, l', st', φ)) (hφ : AllP φ)
    (hr : RW P cx l.toArray l' st' fun s => Wk P cx F k .normal s) : Wk P cx F (.code c :: k) .normal st := ⟨by
  subst hc
  obtain ⟨⟨infs, l2, st2, φ2⟩, hrr, h1⟩ := Option.map_eq_some_iff.1 h
  simp only [Prod.mk.injEq, Bool.and_eq_true, decide_eq_true_eq] at h1
  obtain ⟨⟨⟨hcomm, hle⟩, hfr⟩, rfl, rfl, rfl⟩ := h1
  refine (q6P infs hmix hn hd hle hcomm ?_ (zmN hrr hφ (fun hds a w hs Q hQ => hr.h hds a w hs Q fun st' a' w' hR hs' => hQ st' a' w' hR.h hs')) : AW P cx (.region id l.toArray true) st (AWk P cx F k))
  rw [List.all_eq_true] at hfr ⊢
  intro q hq
  have := hfr q hq
  rw [List.isEmpty_iff] at this
  rw [this]; rfl⟩
theorem wk_aw {P : Program} {cx : Cx} {F : Exit → St → Prop} {c : Code} {st : St} (h : Wk P cx F [.code c] .normal st) : AW P cx c st F := by
  have := qk4 h.h
  intro a w hs
  exact this a w hs
theorem zwK {P : Program} {cx : Cx} {F : Exit → St → Prop} {c : Code} {k : List Fr} {st st' : St} (ht : ∀ t v, st'.tm.lookup t = some v → st.tm.lookup t = some v) (hp : ∀ j b, st'.hp.lookup j = some b → st.hp.lookup j = some b) (he : st'.ex = st.ex)
    (h : Wk P cx F (.code c :: k) .normal st') : Wk P cx F (.code c :: k) .normal st := ⟨by
  have hc : CW P cx c st' (AWk P cx F k) := h.h
  show CW P cx c st (AWk P cx F k)
  have key : ∀ a w, Sim cx st a w → Sim cx st' a w := fun a w ⟨L, I, hs⟩ => ⟨L, I, hs.sub ht hp he⟩
  cases c with
  | loop x => exact fun a w hs => hc a w (key a w hs)
  | _ => exact fun a w hs => hc a w (key a w hs)⟩
theorem zxX {P : Program} {cx : Cx} {F : Exit → St → Prop} {c x : Code} {id : Nat} (hc : c = .loop x) (J : Nat → St → Prop) (hstep : ∀ m s, J (m + 1) s → Wk P cx (fun e s' => e = .normal ∧ J m s') [.code x] .normal s)
    (hend : ∀ s, J 0 s → Wk P cx (fun e s' => e = .exit id ∧ F .normal s') [.code x] .normal s) : ∀ m s, J m s → Wk P cx F [.code c, .blk id] .normal s := fun m s hJ => ⟨by
  subst hc
  show LW P cx x s (AWk P cx F [.blk id])
  induction m generalizing s with
  | zero =>
    refine LW.round fun a w hs => ?_
    refine wpIn_mono (qk4 (hend s hJ).h a w hs) fun e a' w' ⟨s', h1, h2⟩ => ⟨s', ?_, h2⟩
    obtain ⟨rfl, h3⟩ := h1
    show AWk P cx F [.blk id] (.exit id) s'
    simp only [AWk, if_pos]
    exact h3
  | succ m ih =>
    refine LW.round fun a w hs => ?_
    refine wpIn_mono (qk4 (hstep m s hJ).h a w hs) fun e a' w' ⟨s', h1, h2⟩ => ⟨s', ?_, h2⟩
    obtain ⟨rfl, h3⟩ := h1
    exact ih s' h3⟩
theorem zp0 {P : Program} {f : FuncId} {caps : List V} {n m : Nat} {ps : Array Tmp} {assign body : Code} {tm : List (Nat × V)} {hp hp' : List (Nat × Blk)} (hok : okFn P f m = true) (hres : zyO P f = true) (hl : caps.length + 1 ≤ m)
    (h : ∀ (cx : Cx) (l : Nat) (rec : Loop) (ks : List (Nat × Obj)), cx.n = m → cx.rd = none → cx.ks = (l, .loop rec) :: ks → zpD rec n ps assign body → cx.w0.heap.size ≤ l → cx.xs = rec.tmps.toList → (∀ t v, tm.lookup t = some v → t < n) →
      Wk P cx (zzB hp' (qjZ n tm)) [.code (qm5 P f)] .normal ⟨idxV 0 (.c (.yd l) :: caps), hp, qjZ n tm⟩) : q4L P f caps n ps assign body tm hp hp' :=
  zp1 hok hres hl fun cx l rec ks h1 h2 h3 h4 h5 h6 h7 => wk_aw (h cx l rec ks h1 h2 h3 h4 h5 h6 h7)
theorem znU {P : Program} {cx : Cx} {F : Exit → St → Prop} {n : Nat} {c : Code} {k : List Fr} {st : St} {tm : List (Nat × V)} {hp hp' : List (Nat × Blk)} {g : Operand} {ps : Array Tmp} {assign body : Code} {f : FuncId} {caps : List Cap} (hcode : c = .rangeFunc g ps assign body)
    (hst : st = ⟨tm, hp, []⟩) (hn : cx.n = n) (hrd : cx.rd = none) (hg : fnOf (st.ev g) = some (f, caps)) (hc : qjV P f = true) (hit : q4L P f (caps.map capV) n ps assign body tm hp hp') (hr : Wk P cx F k .normal ⟨tm, hp', []⟩) :
    Wk P cx F (.code c :: k) .normal st := by
  subst hcode; subst hst
  exact zuS hn hrd hg hc rfl hit hr
end Go.Am
namespace Go.Am.X
open Go.Proofs.Tryz (prog)
def itT {β : Type} (K : Nat) (rd : β → qa7 → qaE → Option β) : β → List qaM → Option β
  | b, [] => some b
  | b, x :: xs => (qi7 K x.Coef).bind fun c => (rd b x.Exp c).bind fun b' => itT K rd b' xs
noncomputable def qnO : Code := qm5 prog 175
noncomputable def zmA : List Oper := match atC qnO [1, 0, 0, 1, 1, 0, 0, 0] with | .region _ ops _ => ops.toList | _ => []
noncomputable def q3Q : List Oper := match atC qnO [1, 0, 0, 1, 1, 0, 0, 1, 0] with | .region _ ops _ => ops.toList | _ => []
noncomputable def znC : List Oper := match atC qnO [0] with | .region _ ops _ => ops.toList | _ => []
theorem it_r2 : atC qnO [1, 0, 0, 1, 1, 0, 0, 0] = .region 2 zmA.toArray false := by kernel_rfl
theorem it_r3 : atC qnO [1, 0, 0, 1, 1, 0, 0, 1, 0] = .region 3 q3Q.toArray true := by kernel_rfl
theorem it_r0 : atC qnO [0] = .region 0 znC.toArray false := by kernel_rfl
noncomputable def it_o (l : List Oper) (i : Nat) : Oper := (l[i]?).getD default
def zvK (hp : List (Nat × Blk)) (ex : List V) (l : Nat) (list : List qaM) (i : Int) : St :=
  ⟨[(0, .c (.yd l)), (5, vl 6 list qaA), (6, vi .i64 (list.length : Int)), (7, vi .i64 i)], hp, ex⟩
theorem dupK {k : Nat} (h : ¬ k = 1000) (a b : Blk) (hp : List (Nat × Blk)) : ((1000, a) :: (1000, b) :: hp).lookup k = hp.lookup k := by simp only [qcV, if_neg h]
theorem it_sub {hp : List (Nat × Blk)} (h : hp.lookup 1000 = none) {b : Blk} : ∀ k c, hp.lookup k = some c → ((1000, b) :: hp).lookup k = some c := fun k c hk => by
  rw [qcV]
  split
  · rename_i e; subst e; rw [h] at hk; cases hk
  · exact hk
section
variable {β : Type} {K n j : Nat} {rd : β → qa7 → qaE → Option β} {HP : β → List (Nat × Blk)} {ps : Array Tmp} {assign body : Code} {tm : List (Nat × V)} {list : List qaM}
theorem zvL {cx : Cx} {l : Nat} {rec : Loop} {ks : List (Nat × Obj)} {b b' : β} {i : Nat} {x : qaM} {c : qaE} {F : Exit → St → Prop} (hn : cx.n = 20) (hcx : cx.ks = (l, .loop rec) :: ks) (hr : zpD rec n ps assign body) (hl : cx.w0.heap.size ≤ l)
    (hxs : cx.xs = rec.tmps.toList) (htmn : ∀ t v, tm.lookup t = some v → t < n) (hps : ps.size = 2) (hpn : ∀ p ∈ ps.toList, p < n) (hno : ∀ b, (HP b).lookup 1000 = none)
    (hfree : ∀ b, ((HP b).all (fun p => p.1 == 1000 || p.2.free (some 1000)) && q2F (some 1000) (qjZ n tm)) = true)
    (hrd : ∀ b m c b' l t5 t6 t7, rd b m c = some b' → zd0 prog n assign body (q53 ps.toList [.agg ((qbE m).map C.t), .agg ((qaK c).map C.t)] tm) (qjZ n tm ++ itEx l t5 t6 t7) (HP b) (HP b'))
    (hx : list[i]? = some x) (hlen : list.length ≤ 4611686018427387904) (hc : qi7 K x.Coef = some c) (hb : rd b x.Exp c = some b')
    (hF : ∀ s : St, s.tm.lookup 0 = some (.c (.yd l)) → s.tm.lookup 5 = some (vl 6 list qaA) → s.tm.lookup 6 = some (vi .i64 (list.length : Int)) → s.tm.lookup 7 = some (vi .i64 ((i + 1 : Nat) : Int)) → s.hp = HP b' → s.ex = qjZ n tm → F .normal s) :
    Wk prog cx F [.code (atC qnO [1, 0, 0])] .normal (zvK (HP b) (qjZ n tm) l list i) := by
  have hil : i < list.length := (List.getElem?_eq_some_iff.1 hx).1
  have hdec : decide ((i : Int) < (list.length : Int)) = true := by simp; omega
  have hwrap : wI6 ((i : Int) + 1) = ((i + 1 : Nat) : Int) := by
    show (if (true && decide (((i : Int) + 1) % 18446744073709551616 ≥ 9223372036854775808)) = true then ((i : Int) + 1) % 18446744073709551616 - 18446744073709551616 else ((i : Int) + 1) % 18446744073709551616) = _
    split
    · rename_i h1; simp at h1; omega
    · rename_i h1; simp at h1; omega
  let ex := qjZ n tm
  let k2 : List Fr := [.code (atC qnO [1, 0, 0, 1, 1, 0, 0, 1]), .blk 1, .code (atC qnO [1, 0, 0, 1, 1, 1])]
  let k3 : List Fr := [.code (atC qnO [1, 0, 0, 1, 1, 0, 0, 1, 1]), .blk 1, .code (atC qnO [1, 0, 0, 1, 1, 1])]
  let t5 : T := .sl 6 (list.map qaA)
  let t6 : T := .int .i64 (list.length : Int)
  let t7 : T := .int .i64 (i : Int)
  let tk : List (Nat × V) := [(0, .c (.yd l)), (5, .c (.t t5)), (6, .c (.t t6)), (7, .c (.t t7))]
  let eV : V := .agg ((qbE x.Exp).map C.t)
  let cV : V := .agg ((qaK c).map C.t)
  -- from behind the call of yield
  have stepD : RW prog cx q3Q.toArray [it_o q3Q 7] (({ tm := tk, hp := HP b', ex := ex } : St).put 17 (.c (.t (.bool true)))) (fun s => Wk prog cx F k3 .normal s) := by
    refine zwZ (is := [.op .p]) (st' := ⟨(18, .c (.t (.bool false))) :: (17, .c (.t (.bool true))) :: tk, HP b', ex⟩) (φs := []) (by kernel_rfl) trivial ?_
    refine q2E (k := k3) (k' := []) (e' := .normal) (st' := ⟨(7, vi .i64 (wI6 ((i : Int) + 1))) :: (19, vi .i64 (wI6 ((i : Int) + 1))) :: (18, .c (.t (.bool false))) :: (17, .c (.t (.bool true))) :: tk, HP b', ex⟩)
      (fuel := 30) [bFa, rg2] [false = false] hn (by kernel_rfl) ⟨rfl, trivial⟩ (zwM ?_)
    refine hF _ rfl rfl rfl ?_ rfl rfl
    rw [← hwrap]; rfl
  -- the call of yield
  have stepC : RW prog cx q3Q.toArray [it_o q3Q 6, it_o q3Q 7] ⟨(11, .c (.yd l)) :: (13, eV) :: (16, cV) :: tk, HP b, ex⟩ (fun s => Wk prog cx F k3 .normal s) := by
    refine zu1 (tm := tm) (tk := tk) (hp' := HP b') (es := [eV, cV]) (x := .tmp 11) (args := [.tmp 13, .tmp 16]) (tys := #[170, 35]) (d := 17) (by kernel_rfl) (by kernel_rfl) (by kernel_rfl) rfl hcx hr hl hxs rfl htmn (by rw [hps]; rfl) hpn ?_ rfl hn ?_ stepD
    · intro t v ht
      simp only [qcV]
      simp only [tk, qcV] at ht
      split at ht
      · rename_i e; subst e; exact ht
      · split at ht
        · rename_i e; subst e; exact ht
        · split at ht
          · rename_i e; subst e; exact ht
          · split at ht
            · rename_i e; subst e; exact ht
            · simp at ht
    · exact hrd b x.Exp c b' l t5 t6 t7 hb
  -- the drawn region
  have stepB : Wk prog cx F k2 .normal ⟨[(0, .c (.yd l)), (4, .c (.ptr 1000 0)), (5, .c (.t t5)), (6, .c (.t t6)), (7, .c (.t t7))], (1000, .var ((qaA x).map C.t)) :: HP b, ex⟩ := by
    refine q2E (k' := .code (atC qnO [1, 0, 0, 1, 1, 0, 0, 1, 0]) :: k3) (e' := .normal) (st' := ⟨[(0, .c (.yd l)), (4, .c (.ptr 1000 0)), (5, .c (.t t5)), (6, .c (.t t6)), (7, .c (.t t7))], (1000, .var ((qaA x).map C.t)) :: HP b, ex⟩) (fuel := 5) [] [] hn (by kernel_rfl) trivial ?_
    refine zxY (l' := [it_o q3Q 6, it_o q3Q 7]) (st' := ⟨(16, cV) :: (15, .agg ((qaK x.Coef).map C.t)) :: (14, .c (.ptr 1000 0)) :: (13, eV) :: (12, .c (.ptr 1000 2)) :: (11, .c (.yd l)) :: [(0, .c (.yd l)), (4, .c (.ptr 1000 0)), (5, .c (.t t5)), (6, .c (.t t6)), (7, .c (.t t7))], (1000, .var ((qaA x).map C.t)) :: HP b, ex⟩)
      (hs := [.p, .p, .p, .p, .p, .call [[0, 1]] [TV.agg (qaK x.Coef)] (TV.agg (qaK c))]) (φ := [qc7 prog 87 [TV.agg (qaK x.Coef)] (TV.agg (qaK c))]) it_r3 (by kernel_rfl) hn (by kernel_rfl) (by kernel_rfl) ⟨qj3 hc, trivial⟩ ?_
    refine zwY (st' := ⟨(11, .c (.yd l)) :: (13, eV) :: (16, cV) :: tk, HP b, ex⟩) (fun t v ht => ?_) (it_sub (hno b)) rfl stepC
    simp only [tk, qcV] at ht ⊢
    repeat' (split at ht)
    all_goals (first | (rename_i e; subst e; simpa using ht) | simp at ht)
  -- the region that lays the variable
  have stepA : Wk prog cx F (.code (atC qnO [1, 0, 0, 1, 1, 0, 0, 0]) :: k2) .normal ⟨(8, .c (.t (.bool (decide ((i : Int) < (list.length : Int)))))) :: tk, HP b, ex⟩ := by
    refine zwL (n := 20) it_r2 hn (by kernel_rfl) ?_
    have key : RW prog cx zmA.toArray [it_o zmA 0, it_o zmA 1, it_o zmA 2, it_o zmA 3] ⟨(8, .c (.t (.bool (decide ((i : Int) < (list.length : Int)))))) :: tk, HP b, ex⟩ (fun s => Wk prog cx F k2 .normal s) := by
      refine zsY (v := .c (.ep (qaA x) 0)) (d := 9) (by kernel_rfl) (by kernel_rfl) ?_ ?_
      · exact zqD (t := 111) (x := .tmp 5) (ix := .tmp 7) (k := .i64) (i := (i : Int)) (by kernel_rfl) (by kernel_rfl) rfl rfl (by omega) (by rw [Int.toNat_natCast, List.getElem?_map, hx]; rfl)
      refine zsY (v := .agg ((qaA x).map C.t)) (d := 10) (by kernel_rfl) (by kernel_rfl) (zsC (by kernel_rfl)) ?_
      refine zs0 (t := 173) (j := 1000) (d := 4) (z := ((prog.info? 173).bind (·.zero)).getD undef) (zs := [.t (.bool false), .nil, .t (.int .i64 0), .t (.int .i64 0), .t (.int .i64 0), .t (.int .i64 0)]) (by kernel_rfl) (by kernel_rfl) (by kernel_rfl) (by kernel_rfl) (by kernel_rfl) (by kernel_rfl) ?_ ?_
      · have := hfree b
        simp only [Bool.and_eq_true] at this
        simp only [St.free, Bool.and_eq_true]
        exact ⟨⟨by kernel_rfl, this.1⟩, this.2⟩
      refine zu2 (t := 173) (p := .tmp 4) (x := .tmp 10) (j := 1000) (k := 0) (n := 6) (xs := (qaA x).map C.t) (by kernel_rfl) (by kernel_rfl) (by kernel_rfl) rfl rfl (by kernel_rfl) rfl (by kernel_rfl) (by decide) ?_
      refine zwY (st' := ⟨[(0, .c (.yd l)), (4, .c (.ptr 1000 0)), (5, .c (.t t5)), (6, .c (.t t6)), (7, .c (.t t7))], (1000, .var ((qaA x).map C.t)) :: HP b, ex⟩) (fun t v ht => ?_) (fun k c hk => ?_) rfl (rw_nil stepB)
      · simp only [qcV] at ht
        repeat' (split at ht)
        all_goals (first | (rename_i e; subst e; exact ht) | simp at ht)
      · simp only [qcV] at hk
        split at hk
        · rename_i e; subst e; cases hk; kernel_rfl
        · rename_i e
          exact (dupK e _ _ _).trans hk
    exact zsZ (by kernel_rfl) key
  refine (q2E (k' := .code (atC qnO [1, 0, 0, 1, 1, 0, 0, 0]) :: k2) (e' := .normal) (st' := ⟨(8, .c (.t (.bool (decide ((i : Int) < (list.length : Int)))))) :: tk, HP b, ex⟩) (fuel := 30) [rg1, bTr]
    [decide ((i : Int) < (list.length : Int)) = true] hn (by kernel_rfl) ⟨hdec, trivial⟩ stepA)
theorem zyV {b r : β} (h : itT K rd b [] = some r) : b = r := Option.some.inj h
theorem ztJ (hps : ps.size = 2) (hpn : ∀ p ∈ ps.toList, p < n) (hno : ∀ b, (HP b).lookup 1000 = none)
    (hfree : ∀ b, ((HP b).all (fun p => p.1 == 1000 || p.2.free (some 1000)) && q2F (some 1000) (qjZ n tm)) = true)
    (hj : ∀ b, (HP b).lookup j = some (.var [C.t (T.sl 6 (list.map qaA))]))
    (hrd : ∀ b m c b' l t5 t6 t7, rd b m c = some b' → zd0 prog n assign body (q53 ps.toList [.agg ((qbE m).map C.t), .agg ((qaK c).map C.t)] tm) (qjZ n tm ++ itEx l t5 t6 t7) (HP b) (HP b'))
    (hlen : list.length ≤ 4611686018427387904) {b r : β} (h : itT K rd b list = some r) : q4L prog 175 [.c (.ptr j 0)] n ps assign body tm (HP b) (HP r) := by
  refine zp0 (m := 20) (by kernel_rfl) (by kernel_rfl) (by simp) fun cx l rec ks hn _ hcx hr hl hxs htmn => ?_
  let t5 : T := .sl 6 (list.map qaA)
  let J : Nat → St → Prop := fun m s => ∃ (i : Nat) (b : β), i + m = list.length ∧ itT K rd b (list.drop i) = some r ∧ s.tm.lookup 0 = some (.c (.yd l)) ∧ s.tm.lookup 5 = some (vl 6 list qaA) ∧
    s.tm.lookup 6 = some (vi .i64 (list.length : Int)) ∧ s.tm.lookup 7 = some (vi .i64 ((i : Nat) : Int)) ∧ s.hp = HP b ∧ s.ex = qjZ n tm
  have hsub : ∀ {s : St} {i : Nat} {b : β}, s.tm.lookup 0 = some (.c (.yd l)) → s.tm.lookup 5 = some (vl 6 list qaA) → s.tm.lookup 6 = some (vi .i64 (list.length : Int)) → s.tm.lookup 7 = some (vi .i64 ((i : Nat) : Int)) →
      ∀ t v, (zvK (HP b) (qjZ n tm) l list i).tm.lookup t = some v → s.tm.lookup t = some v := by
    intro s i b h0 h5 h6 h7 t v ht
    simp only [zvK, qcV] at ht
    split at ht
    · rename_i e; subst e; rw [h0]; exact ht
    · split at ht
      · rename_i e; subst e; rw [h5]; exact ht
      · split at ht
        · rename_i e; subst e; rw [h6]; exact ht
        · split at ht
          · rename_i e; subst e; rw [h7]; exact ht
          · simp at ht
  have loop : ∀ m s, J m s → Wk prog cx (zzB (HP r) (qjZ n tm)) [.code (atC qnO [1, 0]), .blk 0] .normal s := by
    refine zxX (x := atC qnO [1, 0, 0]) (by kernel_rfl) J (fun m s hJ => ?_) (fun s hJ => ?_)
    · obtain ⟨i, b, him, hit, h0, h5, h6, h7, hhp, hex⟩ := hJ
      have hil : i < list.length := by omega
      obtain ⟨x, hx⟩ : ∃ x, list[i]? = some x := ⟨_, List.getElem?_eq_getElem hil⟩
      have hdrop : list.drop i = x :: list.drop (i + 1) := by
        rw [List.drop_eq_getElem_cons hil]
        rw [List.getElem?_eq_getElem hil] at hx
        cases hx; rfl
      rw [hdrop] at hit
      obtain ⟨c, hc, hit⟩ := Option.bind_eq_some_iff.1 hit
      obtain ⟨b', hb', hit⟩ := Option.bind_eq_some_iff.1 hit
      refine zwK (hsub (b := b) h0 h5 h6 h7) (fun j q hq => by rw [hhp]; exact hq) hex.symm ?_
      exact zvL hn hcx hr hl hxs htmn hps hpn hno hfree hrd hx hlen hc hb' fun s' g0 g5 g6 g7 ghp gex => ⟨rfl, i + 1, b', by omega, hit, g0, g5, g6, g7, ghp, gex⟩
    · obtain ⟨i, b, him, hit, h0, h5, h6, h7, hhp, hex⟩ := hJ
      have hil : i = list.length := by omega
      have hbr : b = r := by
        rw [hil, List.drop_eq_nil_of_le (Nat.le_refl _)] at hit
        exact zyV hit
      subst hbr
      refine zwK (hsub (b := b) h0 h5 h6 h7) (fun j q hq => by rw [hhp]; exact hq) hex.symm ?_
      have hdec : decide ((i : Int) < (list.length : Int)) = false := by simp; omega
      refine q2E (k' := []) (e' := .exit 0) (st' := ⟨(8, .c (.t (.bool (decide ((i : Int) < (list.length : Int)))))) :: (zvK (HP b) (qjZ n tm) l list i).tm, HP b, qjZ n tm⟩) (fuel := 30) [rg1, bFa]
        [decide ((i : Int) < (list.length : Int)) = false] hn (by kernel_rfl) ⟨hdec, trivial⟩ (zwM ⟨rfl, .inr rfl, fun _ _ h => h, rfl⟩)
  refine q2E (k' := [.code (atC qnO [0]), .code (atC qnO [1])]) (e' := .normal) (st' := ⟨[(0, .c (.yd l)), (1, .c (.ptr j 0))], HP b, qjZ n tm⟩) (fuel := 30) [] [] hn (by kernel_rfl) trivial ?_
  refine zwL (n := 20) it_r0 hn (by kernel_rfl) (zsZ (l' := [it_o znC 0, it_o znC 1, it_o znC 2]) (by kernel_rfl) ?_)
  refine zsY (v := .c (.t t5)) (d := 5) (by kernel_rfl) (by kernel_rfl) ?_ ?_
  · exact zwI (t := 111) (x := .tmp 1) (n := 1) (by kernel_rfl) (by kernel_rfl) rfl (hj b) rfl
  refine zwZ (is := [opI (.ln (list.length : Int)), .op .p]) (st' := ⟨(7, vi .i64 0) :: (6, vi .i64 (list.length : Int)) :: (5, .c (.t t5)) :: [(0, .c (.yd l)), (1, .c (.ptr j 0))], HP b, qjZ n tm⟩) (φs := [((list.map qaA).length : Int) = (list.length : Int)]) (by kernel_rfl) ⟨qdI _ _, trivial⟩ ?_
  refine q2E (k' := [.code (atC qnO [1, 0]), .blk 0]) (e' := .normal) (st' := ⟨(7, vi .i64 0) :: (6, vi .i64 (list.length : Int)) :: (5, .c (.t t5)) :: [(0, .c (.yd l)), (1, .c (.ptr j 0))], HP b, qjZ n tm⟩) (fuel := 30) [] [] hn (by kernel_rfl) trivial ?_
  exact loop list.length _ ⟨0, b, by omega, h, rfl, rfl, rfl, rfl, rfl, rfl⟩
end
open Go.Proofs.Tryz (prog)
inductive qmK where
 | c0 (b2 : qaD) (out : qaD) (b12_0 : (List qaM)) (m : qa7) (c : qaE)
 | c1 (b2 : qaD) (out : qaD) (t : qaD) (b12_0 : (List qaM)) (t17 : qa7) (t18 : Int)
 | c2 (b2 : qaD) (out : qaD) (t : qaD) (b12_0 : (List qaM)) (t17 : qa7) (t18 : Int)
def qbU : Nat → qmK → Option qaD
 | 0, _ => none
 | K + 1, .c0 b2 out b12_0 m c =>
  qbU K (.c1 b2 out (qaD.mk (0 : Int) c []) b12_0 m (0 : Int))
 | K + 1, .c1 b2 out t b12_0 t17 t18 =>
  bif (decide (t18 < (4 : Int))) then
   bif (decide (t18 = 0)) then
    bif (decide ((0 : Int) < t17.e0)) then
     gd (0 ≤ (wI6 (t17.e0 + (1 : Int))) ∧ (wI6 (t17.e0 + (1 : Int))) ≤ (wI6 (t17.e0 + (1 : Int))) ∧ (64 : Int) * (wI6 (t17.e0 + (1 : Int))) ≤ 140737488355328) <|
     (gid qcC (List.replicate (wI6 (t17.e0 + (1 : Int))).toNat ((qaC (qaD.mk (0 : Int) (qaE.mk false []) [])) : (List T))) t17.e0).bind fun _ =>
     qbU K (.c2 b2 out (qaD.mk (wI6 (t18 + (1 : Int))) (qaE.mk false []) ((List.replicate (wI6 (t17.e0 + (1 : Int))).toNat ((qaC (qaD.mk (0 : Int) (qaE.mk false []) [])) : (List T))).set (t17.e0.toNat) (qaC t))) b12_0 t17 t18)
    else
     qbU K (.c2 b2 out t b12_0 t17 t18)
   else
    bif (decide (t18 = 1)) then
     bif (decide ((0 : Int) < t17.e1)) then
      gd (0 ≤ (wI6 (t17.e1 + (1 : Int))) ∧ (wI6 (t17.e1 + (1 : Int))) ≤ (wI6 (t17.e1 + (1 : Int))) ∧ (64 : Int) * (wI6 (t17.e1 + (1 : Int))) ≤ 140737488355328) <|
      (gid qcC (List.replicate (wI6 (t17.e1 + (1 : Int))).toNat ((qaC (qaD.mk (0 : Int) (qaE.mk false []) [])) : (List T))) t17.e1).bind fun _ =>
      qbU K (.c2 b2 out (qaD.mk (wI6 (t18 + (1 : Int))) (qaE.mk false []) ((List.replicate (wI6 (t17.e1 + (1 : Int))).toNat ((qaC (qaD.mk (0 : Int) (qaE.mk false []) [])) : (List T))).set (t17.e1.toNat) (qaC t))) b12_0 t17 t18)
     else
      qbU K (.c2 b2 out t b12_0 t17 t18)
    else
     bif (decide (t18 = 2)) then
      bif (decide ((0 : Int) < t17.e2)) then
       gd (0 ≤ (wI6 (t17.e2 + (1 : Int))) ∧ (wI6 (t17.e2 + (1 : Int))) ≤ (wI6 (t17.e2 + (1 : Int))) ∧ (64 : Int) * (wI6 (t17.e2 + (1 : Int))) ≤ 140737488355328) <|
       (gid qcC (List.replicate (wI6 (t17.e2 + (1 : Int))).toNat ((qaC (qaD.mk (0 : Int) (qaE.mk false []) [])) : (List T))) t17.e2).bind fun _ =>
       qbU K (.c2 b2 out (qaD.mk (wI6 (t18 + (1 : Int))) (qaE.mk false []) ((List.replicate (wI6 (t17.e2 + (1 : Int))).toNat ((qaC (qaD.mk (0 : Int) (qaE.mk false []) [])) : (List T))).set (t17.e2.toNat) (qaC t))) b12_0 t17 t18)
      else
       qbU K (.c2 b2 out t b12_0 t17 t18)
     else
      bif (decide (t18 = 3)) then
       bif (decide ((0 : Int) < t17.e3)) then
        gd (0 ≤ (wI6 (t17.e3 + (1 : Int))) ∧ (wI6 (t17.e3 + (1 : Int))) ≤ (wI6 (t17.e3 + (1 : Int))) ∧ (64 : Int) * (wI6 (t17.e3 + (1 : Int))) ≤ 140737488355328) <|
        (gid qcC (List.replicate (wI6 (t17.e3 + (1 : Int))).toNat ((qaC (qaD.mk (0 : Int) (qaE.mk false []) [])) : (List T))) t17.e3).bind fun _ =>
        qbU K (.c2 b2 out (qaD.mk (wI6 (t18 + (1 : Int))) (qaE.mk false []) ((List.replicate (wI6 (t17.e3 + (1 : Int))).toNat ((qaC (qaD.mk (0 : Int) (qaE.mk false []) [])) : (List T))).set (t17.e3.toNat) (qaC t))) b12_0 t17 t18)
       else
        qbU K (.c2 b2 out t b12_0 t17 t18)
      else
       none
  else
   (qrO K out t).bind fun x2 =>
   some x2
 | K + 1, .c2 b2 out t b12_0 t17 t18 =>
  qbU K (.c1 b2 out t b12_0 t17 (wI6 (t18 + (1 : Int))))
def qsD (K : Nat) (b2 : qaD) (out : qaD) (b12_0 : (List qaM)) (m : qa7) (c : qaE) : Option qaD := qbU K (.c0 b2 out b12_0 m c)
noncomputable def qgF : Code := qcS prog 59
noncomputable def zbJ : qmK → List Fr
 | .c0 .. => [.code (atC qgF [1,1,0,1,0,1])]
 | .c1 .. => [.code (.loop (atC qgF [1,1,0,1,0,1,0,1,0,1,0,0])), .blk 2, .code (atC qgF [1,1,0,1,0,1,0,1,1]), .blk 1]
 | .c2 .. => [.code (atC qgF [1,1,0,1,0,1,0,1,0,1,0,0,1,1,1]), .lp (atC qgF [1,1,0,1,0,1,0,1,0,1,0,0]), .blk 2, .code (atC qgF [1,1,0,1,0,1,0,1,1]), .blk 1]
def qnY (l : Nat) (t5 t6 t7 : T) : List V := qjZ 40 [(2, .c (C.ptr 2 0)), (3, .c (C.ptr 3 0)), (12, .c (C.fn 175 [Cap.ptr 12 0]))] ++ itEx l t5 t6 t7
def zbK : qmK → qaD → List (Nat × Blk)
 | .c0 b2 _ b12_0 _ _, r_ => [(2, .var ((qaC b2).map C.t)), (3, .var ((qaC r_).map C.t)), (12, .var [C.t (T.sl 6 (b12_0.map qaA))])]
 | .c1 b2 _ _ b12_0 _ _, r_ => [(2, .var ((qaC b2).map C.t)), (3, .var ((qaC r_).map C.t)), (12, .var [C.t (T.sl 6 (b12_0.map qaA))])]
 | .c2 b2 _ _ b12_0 _ _, r_ => [(2, .var ((qaC b2).map C.t)), (3, .var ((qaC r_).map C.t)), (12, .var [C.t (T.sl 6 (b12_0.map qaA))])]
def zeV (l : Nat) (t5 t6 t7 : T) : qmK → St
 | .c0 b2 out b12_0 m c => ⟨[(3, .c (C.ptr 3 0)), (4, .c (C.ptr 4 0)), (5, .c (C.ptr 5 0))], [(2, .var ((qaC b2).map C.t)), (3, .var ((qaC out).map C.t)), (4, .var ((qbE m).map C.t)), (5, .var ((qaK c).map C.t)), (12, .var [C.t (T.sl 6 (b12_0.map qaA))])], qnY l t5 t6 t7⟩
 | .c1 b2 out t b12_0 t17 t18 => ⟨[(3, .c (C.ptr 3 0)), (6, .c (C.ptr 6 0)), (17, .agg ((qbE t17).map C.t)), (18, vi .i64 t18)], [(2, .var ((qaC b2).map C.t)), (3, .var ((qaC out).map C.t)), (6, .var ((qaC t).map C.t)), (12, .var [C.t (T.sl 6 (b12_0.map qaA))])], qnY l t5 t6 t7⟩
 | .c2 b2 out t b12_0 t17 t18 => ⟨[(3, .c (C.ptr 3 0)), (6, .c (C.ptr 6 0)), (17, .agg ((qbE t17).map C.t)), (18, vi .i64 t18)], [(2, .var ((qaC b2).map C.t)), (3, .var ((qaC out).map C.t)), (6, .var ((qaC t).map C.t)), (12, .var [C.t (T.sl 6 (b12_0.map qaA))])], qnY l t5 t6 t7⟩
def qsB (cx : Cx) (l : Nat) (t5 t6 t7 : T) (c : qmK) (r : qaD) : Prop := Wk prog cx (zwE (zbK c r) (qnY l t5 t6 t7)) (zbJ c) .normal (zeV l t5 t6 t7 c)
abbrev qsC (K : Nat) : Prop := ∀ c r, qbU K c = some r → ∀ cx : Cx, cx.n = 40 → ∀ l t5 t6 t7, qsB cx l t5 t6 t7 c r
theorem zeY {K} (ih : qsC K) {cx} (hn : cx.n = 40) (l : Nat) (t5 t6 t7 : T) {b2 out b12_0 m c} {r} (h : qbU (K + 1) (.c0 b2 out b12_0 m c) = some r) : qsB cx l t5 t6 t7 (.c0 b2 out b12_0 m c) r := by
 rw [qbU] at h
 exact q2E (fuel := 58) [rg4, rg2, .pre [.tellB 6 [0,0,1,4], .keep [3,6,17,18] [2,3,6,12]]] _ hn (by kernel_rfl) aN (ih _ _ h cx hn l t5 t6 t7)
theorem zeX {K} (ih : qsC K) {cx} (hn : cx.n = 40) (l : Nat) (t5 t6 t7 : T) {b2 out t b12_0 t17 t18} {r} (h : qbU (K + 1) (.c1 b2 out t b12_0 t17 t18) = some r) : qsB cx l t5 t6 t7 (.c1 b2 out t b12_0 t17 t18) r := by
 rw [qbU] at h
 rcases qa0 h with ⟨h1, h⟩ | ⟨h1, h⟩
 ·rcases qa0 h with ⟨h2, h⟩ | ⟨h2, h⟩
  ·rcases qa0 h with ⟨h3, h⟩ | ⟨h3, h⟩
   ·obtain ⟨h4, h⟩ := qbV h
    obtain ⟨x5, h6, h⟩ := qaU h
    exact wkG [.go, rg1, bTr, rgG [oo, opI (.iv 0), oo, oo], rg2, bTr, rgG [oo, oo, opI (.mk (qaC (qaD.mk (0 : Int) (qaE.mk false []) [])) ((List.replicate (wI6 (t17.e0 + (1 : Int))).toNat ((qaC (qaD.mk (0 : Int) (qaE.mk false []) [])) : (List T))).map rid)), oo], rgG [oo, oo, oo, .op .ir, opI (.st (qaC x5) (((List.replicate (wI6 (t17.e0 + (1 : Int))).toNat ((qaC (qaD.mk (0 : Int) (qaE.mk false []) [])) : (List T))).set (t17.e0.toNat) (qaC t)).map rid))], rgG [oo, oo, oo, .snap 33 (max 0 (0 + (wI6 (t17.e0 + (1 : Int))).toNat)) (((List.replicate (wI6 (t17.e0 + (1 : Int))).toNat ((qaC (qaD.mk (0 : Int) (qaE.mk false []) [])) : (List T))).set (t17.e0.toNat) (qaC t)).map rid), oo, oo], .pre [.tellB 6 [0,0,1,4], .keep [3,6,17,18] [2,3,6,12]]] hn (aC h1 <| aC (of_decide_eq_true h2 : t18 = ((0 : Nat) : Int)) <| aC h3 <| aC h4.1 <| aC h4.2.1 <| aC h4.2.2 <| aC (q8F _ _ : List.replicate (wI6 (t17.e0 + (1 : Int))).toNat (qaC (qaD.mk (0 : Int) (qaE.mk false []) [])) = (List.replicate (wI6 (t17.e0 + (1 : Int))).toNat ((qaC (qaD.mk (0 : Int) (qaE.mk false []) [])) : (List T))).map rid) <| aC (qk2 h6 : 0 ≤ t17.e0) <| aC (q7T h6 (by simp) : t17.e0 < (((wI6 (t17.e0 + (1 : Int))).toNat : Nat) : Int)) <| aC (q7S @qbC h6 : ((List.replicate (wI6 (t17.e0 + (1 : Int))).toNat ((qaC (qaD.mk (0 : Int) (qaE.mk false []) [])) : (List T))).map rid)[(0 + t17.e0.toNat)]? = some (qaC x5)) <| aC (qe8 _ _ (qaC t) _ : ((List.replicate (wI6 (t17.e0 + (1 : Int))).toNat ((qaC (qaD.mk (0 : Int) (qaE.mk false []) [])) : (List T))).map rid).set (0 + t17.e0.toNat) (qdH (qaC x5) 0 [(T.int .i64 t.Level), (T.bool t.Const.Neg), (T.sl 1 (t.Const.Abs.map qaF)), (T.sl 4 (t.Coefs.map rid))]) = ((List.replicate (wI6 (t17.e0 + (1 : Int))).toNat ((qaC (qaD.mk (0 : Int) (qaE.mk false []) [])) : (List T))).set (t17.e0.toNat) (qaC t)).map rid) <| aC (Nat.zero_le _ : 0 ≤ (0 + t17.e0.toNat)) <| aC (qeH _ _ _ (by simp) : ((((List.replicate (wI6 (t17.e0 + (1 : Int))).toNat ((qaC (qaD.mk (0 : Int) (qaE.mk false []) [])) : (List T))).set (t17.e0.toNat) (qaC t)).map rid).drop 0).take ((wI6 (t17.e0 + (1 : Int))).toNat) = ((List.replicate (wI6 (t17.e0 + (1 : Int))).toNat ((qaC (qaD.mk (0 : Int) (qaE.mk false []) [])) : (List T))).set (t17.e0.toNat) (qaC t)).map rid) <| aC (rfl : (max 0 (0 + (wI6 (t17.e0 + (1 : Int))).toNat)) = (max 0 (0 + (wI6 (t17.e0 + (1 : Int))).toNat))) <| aN) (ih _ _ h cx hn l t5 t6 t7)
   ·exact wkG [.go, rg1, bTr, rgG [oo, opI (.iv 0), oo, oo], rg2, bFa, .pre [.keep [3,6,17,18] [2,3,6,12]]] hn (aC h1 <| aC (of_decide_eq_true h2 : t18 = ((0 : Nat) : Int)) <| aC h3 <| aN) (ih _ _ h cx hn l t5 t6 t7)
  ·rcases qa0 h with ⟨h3, h⟩ | ⟨h3, h⟩
   ·rcases qa0 h with ⟨h4, h⟩ | ⟨h4, h⟩
    ·obtain ⟨h5, h⟩ := qbV h
     obtain ⟨x6, h7, h⟩ := qaU h
     exact wkG [.go, rg1, bTr, rgG [oo, opI (.iv 1), oo, oo], rg2, bTr, rgG [oo, oo, opI (.mk (qaC (qaD.mk (0 : Int) (qaE.mk false []) [])) ((List.replicate (wI6 (t17.e1 + (1 : Int))).toNat ((qaC (qaD.mk (0 : Int) (qaE.mk false []) [])) : (List T))).map rid)), oo], rgG [oo, oo, oo, .op .ir, opI (.st (qaC x6) (((List.replicate (wI6 (t17.e1 + (1 : Int))).toNat ((qaC (qaD.mk (0 : Int) (qaE.mk false []) [])) : (List T))).set (t17.e1.toNat) (qaC t)).map rid))], rgG [oo, oo, oo, .snap 33 (max 0 (0 + (wI6 (t17.e1 + (1 : Int))).toNat)) (((List.replicate (wI6 (t17.e1 + (1 : Int))).toNat ((qaC (qaD.mk (0 : Int) (qaE.mk false []) [])) : (List T))).set (t17.e1.toNat) (qaC t)).map rid), oo, oo], .pre [.tellB 6 [0,0,1,4], .keep [3,6,17,18] [2,3,6,12]]] hn (aC h1 <| aC (of_decide_eq_true h3 : t18 = ((1 : Nat) : Int)) <| aC h4 <| aC h5.1 <| aC h5.2.1 <| aC h5.2.2 <| aC (q8F _ _ : List.replicate (wI6 (t17.e1 + (1 : Int))).toNat (qaC (qaD.mk (0 : Int) (qaE.mk false []) [])) = (List.replicate (wI6 (t17.e1 + (1 : Int))).toNat ((qaC (qaD.mk (0 : Int) (qaE.mk false []) [])) : (List T))).map rid) <| aC (qk2 h7 : 0 ≤ t17.e1) <| aC (q7T h7 (by simp) : t17.e1 < (((wI6 (t17.e1 + (1 : Int))).toNat : Nat) : Int)) <| aC (q7S @qbC h7 : ((List.replicate (wI6 (t17.e1 + (1 : Int))).toNat ((qaC (qaD.mk (0 : Int) (qaE.mk false []) [])) : (List T))).map rid)[(0 + t17.e1.toNat)]? = some (qaC x6)) <| aC (qe8 _ _ (qaC t) _ : ((List.replicate (wI6 (t17.e1 + (1 : Int))).toNat ((qaC (qaD.mk (0 : Int) (qaE.mk false []) [])) : (List T))).map rid).set (0 + t17.e1.toNat) (qdH (qaC x6) 0 [(T.int .i64 t.Level), (T.bool t.Const.Neg), (T.sl 1 (t.Const.Abs.map qaF)), (T.sl 4 (t.Coefs.map rid))]) = ((List.replicate (wI6 (t17.e1 + (1 : Int))).toNat ((qaC (qaD.mk (0 : Int) (qaE.mk false []) [])) : (List T))).set (t17.e1.toNat) (qaC t)).map rid) <| aC (Nat.zero_le _ : 0 ≤ (0 + t17.e1.toNat)) <| aC (qeH _ _ _ (by simp) : ((((List.replicate (wI6 (t17.e1 + (1 : Int))).toNat ((qaC (qaD.mk (0 : Int) (qaE.mk false []) [])) : (List T))).set (t17.e1.toNat) (qaC t)).map rid).drop 0).take ((wI6 (t17.e1 + (1 : Int))).toNat) = ((List.replicate (wI6 (t17.e1 + (1 : Int))).toNat ((qaC (qaD.mk (0 : Int) (qaE.mk false []) [])) : (List T))).set (t17.e1.toNat) (qaC t)).map rid) <| aC (rfl : (max 0 (0 + (wI6 (t17.e1 + (1 : Int))).toNat)) = (max 0 (0 + (wI6 (t17.e1 + (1 : Int))).toNat))) <| aN) (ih _ _ h cx hn l t5 t6 t7)
    ·exact wkG [.go, rg1, bTr, rgG [oo, opI (.iv 1), oo, oo], rg2, bFa, .pre [.keep [3,6,17,18] [2,3,6,12]]] hn (aC h1 <| aC (of_decide_eq_true h3 : t18 = ((1 : Nat) : Int)) <| aC h4 <| aN) (ih _ _ h cx hn l t5 t6 t7)
   ·rcases qa0 h with ⟨h4, h⟩ | ⟨h4, h⟩
    ·rcases qa0 h with ⟨h5, h⟩ | ⟨h5, h⟩
     ·obtain ⟨h6, h⟩ := qbV h
      obtain ⟨x7, h8, h⟩ := qaU h
      exact wkG [.go, rg1, bTr, rgG [oo, opI (.iv 2), oo, oo], rg2, bTr, rgG [oo, oo, opI (.mk (qaC (qaD.mk (0 : Int) (qaE.mk false []) [])) ((List.replicate (wI6 (t17.e2 + (1 : Int))).toNat ((qaC (qaD.mk (0 : Int) (qaE.mk false []) [])) : (List T))).map rid)), oo], rgG [oo, oo, oo, .op .ir, opI (.st (qaC x7) (((List.replicate (wI6 (t17.e2 + (1 : Int))).toNat ((qaC (qaD.mk (0 : Int) (qaE.mk false []) [])) : (List T))).set (t17.e2.toNat) (qaC t)).map rid))], rgG [oo, oo, oo, .snap 33 (max 0 (0 + (wI6 (t17.e2 + (1 : Int))).toNat)) (((List.replicate (wI6 (t17.e2 + (1 : Int))).toNat ((qaC (qaD.mk (0 : Int) (qaE.mk false []) [])) : (List T))).set (t17.e2.toNat) (qaC t)).map rid), oo, oo], .pre [.tellB 6 [0,0,1,4], .keep [3,6,17,18] [2,3,6,12]]] hn (aC h1 <| aC (of_decide_eq_true h4 : t18 = ((2 : Nat) : Int)) <| aC h5 <| aC h6.1 <| aC h6.2.1 <| aC h6.2.2 <| aC (q8F _ _ : List.replicate (wI6 (t17.e2 + (1 : Int))).toNat (qaC (qaD.mk (0 : Int) (qaE.mk false []) [])) = (List.replicate (wI6 (t17.e2 + (1 : Int))).toNat ((qaC (qaD.mk (0 : Int) (qaE.mk false []) [])) : (List T))).map rid) <| aC (qk2 h8 : 0 ≤ t17.e2) <| aC (q7T h8 (by simp) : t17.e2 < (((wI6 (t17.e2 + (1 : Int))).toNat : Nat) : Int)) <| aC (q7S @qbC h8 : ((List.replicate (wI6 (t17.e2 + (1 : Int))).toNat ((qaC (qaD.mk (0 : Int) (qaE.mk false []) [])) : (List T))).map rid)[(0 + t17.e2.toNat)]? = some (qaC x7)) <| aC (qe8 _ _ (qaC t) _ : ((List.replicate (wI6 (t17.e2 + (1 : Int))).toNat ((qaC (qaD.mk (0 : Int) (qaE.mk false []) [])) : (List T))).map rid).set (0 + t17.e2.toNat) (qdH (qaC x7) 0 [(T.int .i64 t.Level), (T.bool t.Const.Neg), (T.sl 1 (t.Const.Abs.map qaF)), (T.sl 4 (t.Coefs.map rid))]) = ((List.replicate (wI6 (t17.e2 + (1 : Int))).toNat ((qaC (qaD.mk (0 : Int) (qaE.mk false []) [])) : (List T))).set (t17.e2.toNat) (qaC t)).map rid) <| aC (Nat.zero_le _ : 0 ≤ (0 + t17.e2.toNat)) <| aC (qeH _ _ _ (by simp) : ((((List.replicate (wI6 (t17.e2 + (1 : Int))).toNat ((qaC (qaD.mk (0 : Int) (qaE.mk false []) [])) : (List T))).set (t17.e2.toNat) (qaC t)).map rid).drop 0).take ((wI6 (t17.e2 + (1 : Int))).toNat) = ((List.replicate (wI6 (t17.e2 + (1 : Int))).toNat ((qaC (qaD.mk (0 : Int) (qaE.mk false []) [])) : (List T))).set (t17.e2.toNat) (qaC t)).map rid) <| aC (rfl : (max 0 (0 + (wI6 (t17.e2 + (1 : Int))).toNat)) = (max 0 (0 + (wI6 (t17.e2 + (1 : Int))).toNat))) <| aN) (ih _ _ h cx hn l t5 t6 t7)
     ·exact wkG [.go, rg1, bTr, rgG [oo, opI (.iv 2), oo, oo], rg2, bFa, .pre [.keep [3,6,17,18] [2,3,6,12]]] hn (aC h1 <| aC (of_decide_eq_true h4 : t18 = ((2 : Nat) : Int)) <| aC h5 <| aN) (ih _ _ h cx hn l t5 t6 t7)
    ·rcases qa0 h with ⟨h5, h⟩ | ⟨h5, h⟩
     ·rcases qa0 h with ⟨h6, h⟩ | ⟨h6, h⟩
      ·obtain ⟨h7, h⟩ := qbV h
       obtain ⟨x8, h9, h⟩ := qaU h
       exact wkG [.go, rg1, bTr, rgG [oo, opI (.iv 3), oo, oo], rg2, bTr, rgG [oo, oo, opI (.mk (qaC (qaD.mk (0 : Int) (qaE.mk false []) [])) ((List.replicate (wI6 (t17.e3 + (1 : Int))).toNat ((qaC (qaD.mk (0 : Int) (qaE.mk false []) [])) : (List T))).map rid)), oo], rgG [oo, oo, oo, .op .ir, opI (.st (qaC x8) (((List.replicate (wI6 (t17.e3 + (1 : Int))).toNat ((qaC (qaD.mk (0 : Int) (qaE.mk false []) [])) : (List T))).set (t17.e3.toNat) (qaC t)).map rid))], rgG [oo, oo, oo, .snap 33 (max 0 (0 + (wI6 (t17.e3 + (1 : Int))).toNat)) (((List.replicate (wI6 (t17.e3 + (1 : Int))).toNat ((qaC (qaD.mk (0 : Int) (qaE.mk false []) [])) : (List T))).set (t17.e3.toNat) (qaC t)).map rid), oo, oo], .pre [.tellB 6 [0,0,1,4], .keep [3,6,17,18] [2,3,6,12]]] hn (aC h1 <| aC (of_decide_eq_true h5 : t18 = ((3 : Nat) : Int)) <| aC h6 <| aC h7.1 <| aC h7.2.1 <| aC h7.2.2 <| aC (q8F _ _ : List.replicate (wI6 (t17.e3 + (1 : Int))).toNat (qaC (qaD.mk (0 : Int) (qaE.mk false []) [])) = (List.replicate (wI6 (t17.e3 + (1 : Int))).toNat ((qaC (qaD.mk (0 : Int) (qaE.mk false []) [])) : (List T))).map rid) <| aC (qk2 h9 : 0 ≤ t17.e3) <| aC (q7T h9 (by simp) : t17.e3 < (((wI6 (t17.e3 + (1 : Int))).toNat : Nat) : Int)) <| aC (q7S @qbC h9 : ((List.replicate (wI6 (t17.e3 + (1 : Int))).toNat ((qaC (qaD.mk (0 : Int) (qaE.mk false []) [])) : (List T))).map rid)[(0 + t17.e3.toNat)]? = some (qaC x8)) <| aC (qe8 _ _ (qaC t) _ : ((List.replicate (wI6 (t17.e3 + (1 : Int))).toNat ((qaC (qaD.mk (0 : Int) (qaE.mk false []) [])) : (List T))).map rid).set (0 + t17.e3.toNat) (qdH (qaC x8) 0 [(T.int .i64 t.Level), (T.bool t.Const.Neg), (T.sl 1 (t.Const.Abs.map qaF)), (T.sl 4 (t.Coefs.map rid))]) = ((List.replicate (wI6 (t17.e3 + (1 : Int))).toNat ((qaC (qaD.mk (0 : Int) (qaE.mk false []) [])) : (List T))).set (t17.e3.toNat) (qaC t)).map rid) <| aC (Nat.zero_le _ : 0 ≤ (0 + t17.e3.toNat)) <| aC (qeH _ _ _ (by simp) : ((((List.replicate (wI6 (t17.e3 + (1 : Int))).toNat ((qaC (qaD.mk (0 : Int) (qaE.mk false []) [])) : (List T))).set (t17.e3.toNat) (qaC t)).map rid).drop 0).take ((wI6 (t17.e3 + (1 : Int))).toNat) = ((List.replicate (wI6 (t17.e3 + (1 : Int))).toNat ((qaC (qaD.mk (0 : Int) (qaE.mk false []) [])) : (List T))).set (t17.e3.toNat) (qaC t)).map rid) <| aC (rfl : (max 0 (0 + (wI6 (t17.e3 + (1 : Int))).toNat)) = (max 0 (0 + (wI6 (t17.e3 + (1 : Int))).toNat))) <| aN) (ih _ _ h cx hn l t5 t6 t7)
      ·exact wkG [.go, rg1, bTr, rgG [oo, opI (.iv 3), oo, oo], rg2, bFa, .pre [.keep [3,6,17,18] [2,3,6,12]]] hn (aC h1 <| aC (of_decide_eq_true h5 : t18 = ((3 : Nat) : Int)) <| aC h6 <| aN) (ih _ _ h cx hn l t5 t6 t7)
     ·cases h
 ·obtain ⟨x2, h3, h⟩ := qaU h
  have h := oinj h; subst h
  exact wk_rd (fuel := 76) [2,3,12] [.go, rg1, bFa, rgG [oo, oo, opI (.call [[0,0,1,4], [0,0,1,4]] [(TV.agg (qaC out)), (TV.agg (qaC t))] (TV.agg (qaC x2))), oo]] _ hn (by kernel_rfl) (aC h1 <| aC (zbH h3) <| aN)
theorem zeW {K} (ih : qsC K) {cx} (hn : cx.n = 40) (l : Nat) (t5 t6 t7 : T) {b2 out t b12_0 t17 t18} {r} (h : qbU (K + 1) (.c2 b2 out t b12_0 t17 t18) = some r) : qsB cx l t5 t6 t7 (.c2 b2 out t b12_0 t17 t18) r := by
 rw [qbU] at h
 exact q2E (fuel := 44) [rg2, .pre [.keep [3,6,17,18] [2,3,6,12]]] _ hn (by kernel_rfl) aN (ih _ _ h cx hn l t5 t6 t7)
theorem qpR : ∀ K : Nat, qsC K
 | 0, c, r, h => by rw [qbU] at h; cases h
 | K + 1, .c0 .., r, h => fun cx hn l t5 t6 t7 => zeY (qpR K) hn l t5 t6 t7 h
 | K + 1, .c1 .., r, h => fun cx hn l t5 t6 t7 => zeX (qpR K) hn l t5 t6 t7 h
 | K + 1, .c2 .., r, h => fun cx hn l t5 t6 t7 => zeW (qpR K) hn l t5 t6 t7 h
theorem q4U {K : Nat} {b2 : qaD} {out : qaD} {b12_0 : (List qaM)} {m : qa7} {c : qaE} {r : qaD} (h : qsD K b2 out b12_0 m c = some r) {l : Nat} {t5 t6 t7 : T} : zd0 prog 40 (atC qgF [1,1,0,1,0,0]) (atC qgF [1,1,0,1,0,1]) (q53 [13,14] [.agg ((qbE m).map C.t), .agg ((qaK c).map C.t)] [(2, .c (C.ptr 2 0)), (3, .c (C.ptr 3 0)), (12, .c (C.fn 175 [Cap.ptr 12 0]))]) (qnY l t5 t6 t7) [(2, .var ((qaC b2).map C.t)), (3, .var ((qaC out).map C.t)), (12, .var [C.t (T.sl 6 (b12_0.map qaA))])] [(2, .var ((qaC b2).map C.t)), (3, .var ((qaC r).map C.t)), (12, .var [C.t (T.sl 6 (b12_0.map qaA))])] :=
 zoC fun cx hn => wk_as (fuel := 50) [3,4,5] [2,3,4,5,12] [rg2, rg2] _ hn (by kernel_rfl) aN fun cx hn => qpR K (.c0 b2 out b12_0 m c) r h cx hn l t5 t6 t7
open Go.Proofs.Tryz (prog)
inductive qm7 where
 | c0 (p : (List qaM))
def qhG : Nat → qm7 → Option (List qaM)
 | 0, _ => none
 | K + 1, .c0 p =>
  (qpK K p).bind fun x1 =>
  some x1
def qo0 (K : Nat) (p : (List qaM)) : Option (List qaM) := qhG K (.c0 p)
noncomputable def q4N : Code := qm5 prog 119
noncomputable def q6S : qm7 → List Fr
 | .c0 .. => [.code q4N]
def q77 : qm7 → St
 | .c0 p => St.init [(tl 6 p qaA)]
def qyE (cx : Cx) (c : qm7) (r : (List qaM)) : Prop := Wk prog cx (zwD prog 119 175 [(T.sl 6 (r.map qaA))]) (q6S c) .normal (q77 c)
abbrev qyF (K : Nat) : Prop := ∀ c r, qhG K c = some r → ∀ cx : Cx, cx.n = 7 → qyE cx c r
theorem q78 {K} (_ : qyF K) {cx} (hn : cx.n = 7) {p} {r} (h : qhG (K + 1) (.c0 p) = some r) : qyE cx (.c0 p) r := by
 rw [qhG] at h
 obtain ⟨x1, h2, h⟩ := qaU h
 have h := oinj h; subst h
 exact zxW (fuel := 62) [rg1, rgG [oo, opI (.call [[6]] [(tl 6 p qaA)] (tl 6 x1 qaA)), oo, oo], rgG [.op .clo, oo]] _ hn (by kernel_rfl) (aC (qv1 h2) <| aN)
theorem qv0 : ∀ K : Nat, qyF K
 | 0, c, r, h => by rw [qhG] at h; cases h
 | K + 1, .c0 .., r, h => fun cx hn => q78 (qv0 K) hn h
theorem qtH {K : Nat} {p : (List qaM)} {r : (List qaM)} (h : qo0 K p = some r) : zpF prog 119 [(tl 6 p qaA)] 175 [(T.sl 6 (r.map qaA))] :=
 ztS (n := 7) (by kernel_rfl) (by simp) fun cx hn => qv0 K (.c0 p) r h cx hn
open Go.Proofs.Tryz (prog)
inductive qt2 where
 | c0 (p : (List qaM))
 | c1 (b2 : qaD) (out : qaD) (b12_0 : (List qaM))
def qi4 : Nat → qt2 → Option qaD
 | 0, _ => none
 | K + 1, .c0 p =>
  (qo0 K p).bind fun x1 =>
  qi4 K (.c1 (qaD.mk (0 : Int) (qaE.mk false []) []) (qaD.mk (0 : Int) (qaE.mk false []) []) x1)
 | K + 1, .c1 b2 out b12_0 =>
  (itT K (fun z m c => qsD K b2 z b12_0 m c) out b12_0).bind fun x1 =>
  gd (b12_0.length ≤ 4611686018427387904) <|
  some x1
def q4D (K : Nat) (p : (List qaM)) : Option qaD := qi4 K (.c0 p)
noncomputable def qmL : Code := qcS prog 59
noncomputable def zkD : qt2 → List Fr
 | .c0 .. => [.code qmL]
 | .c1 .. => [.code (atC qmL [1,1,0,1,0]), .blk 0, .code (atC qmL [1,1,1])]
def zmR : qt2 → St
 | .c0 p => St.init [(tl 6 p qaA)]
 | .c1 b2 out b12_0 => ⟨[(2, .c (C.ptr 2 0)), (3, .c (C.ptr 3 0)), (12, .c (C.fn 175 [Cap.ptr 12 0]))], [(2, .var ((qaC b2).map C.t)), (3, .var ((qaC out).map C.t)), (12, .var [C.t (T.sl 6 (b12_0.map qaA))])], []⟩
def q2Z (cx : Cx) (c : qt2) (r : qaD) : Prop := Wk prog cx (qd8 prog 59 [[0,0,1,4]] (TV.agg (qaC r))) (zkD c) .normal (zmR c)
abbrev q20 (K : Nat) : Prop := ∀ c r, qi4 K c = some r → ∀ cx : Cx, cx.n = 40 → cx.rd = none → q2Z cx c r
theorem zmU {K} (ih : q20 K) {cx} (hn : cx.n = 40) (hrd : cx.rd = none) {p} {r} (h : qi4 (K + 1) (.c0 p) = some r) : q2Z cx (.c0 p) r := by
 rw [qi4] at h
 obtain ⟨x1, h2, h⟩ := qaU h
 exact wkG [rg1, rg3, rgG [oo, .callC [[6]] 175 [(T.sl 6 (x1.map qaA))]], .pre [.tellB 2 [0,0,1,4], .tellB 3 [0,0,1,4], .keep [2,3,12] [2,3,12]]] hn (aC (qtH h2) <| aN) (ih _ _ h cx hn hrd)
theorem zmT {K} (_ : q20 K) {cx} (hn : cx.n = 40) (hrd : cx.rd = none) {b2 out b12_0} {r} (h : qi4 (K + 1) (.c1 b2 out b12_0) = some r) : q2Z cx (.c1 b2 out b12_0) r := by
 rw [qi4] at h
 obtain ⟨x1, h2, h⟩ := qaU h
 obtain ⟨h3, h⟩ := qbV h
 refine znU (tm := [(2, .c (C.ptr 2 0)), (3, .c (C.ptr 3 0)), (12, .c (C.fn 175 [Cap.ptr 12 0]))]) (hp := (fun z : qaD => ([(2, .var ((qaC b2).map C.t)), (3, .var ((qaC z).map C.t)), (12, .var [C.t (T.sl 6 (b12_0.map qaA))])] : List (Nat × Blk))) out) (hp' := (fun z : qaD => ([(2, .var ((qaC b2).map C.t)), (3, .var ((qaC z).map C.t)), (12, .var [C.t (T.sl 6 (b12_0.map qaA))])] : List (Nat × Blk))) x1) (f := 175) (caps := [.ptr 12 0])
  (show (atC qmL [1,1,0,1,0]) = .rangeFunc (.tmp 12) #[13,14] (atC qmL [1,1,0,1,0,0]) (atC qmL [1,1,0,1,0,1]) by kernel_rfl) rfl hn hrd (by kernel_rfl) (by kernel_rfl)
  (ztJ (j := 12) (HP := fun z : qaD => ([(2, .var ((qaC b2).map C.t)), (3, .var ((qaC z).map C.t)), (12, .var [C.t (T.sl 6 (b12_0.map qaA))])] : List (Nat × Blk))) rfl (by simp) (fun _ => rfl) (fun _ => by kernel_rfl) (fun _ => rfl) (fun _ _ _ _ _ _ _ _ h => q4U h) h3 h2) ?_
 have h := oinj h; subst h
 exact zlU (fuel := 56) [rg2] _ hn (by kernel_rfl) aN
theorem qx7 : ∀ K : Nat, q20 K
 | 0, c, r, h => by rw [qi4] at h; cases h
 | K + 1, .c0 .., r, h => fun cx hn hrd => zmU (qx7 K) hn hrd h
 | K + 1, .c1 .., r, h => fun cx hn hrd => zmT (qx7 K) hn hrd h
theorem zeZ {K : Nat} {p : (List qaM)} {r : qaD} (h : q4D K p = some r) : qc7 prog 59 [(tl 6 p qaA)] (TV.agg (qaC r)) :=
 zoV [[0,0,1,4]] (by kernel_rfl) (by simp) fun cx hn hrd => qx7 K (.c0 p) r h cx hn hrd
open Go.Proofs.Tryz (prog)
inductive qlB where
 | c0 (l : (List qbB))
def qg4 : Nat → qlB → Option qaD
 | 0, _ => none
 | K + 1, .c0 l =>
  (qmD K l).bind fun x1 =>
  (q4D K x1).bind fun x3 =>
  some x3
def qfQ (K : Nat) (l : (List qbB)) : Option qaD := qg4 K (.c0 l)
noncomputable def q0N : Code := qcS prog 18
noncomputable def q2C : qlB → List Fr
 | .c0 .. => [.code q0N]
def q37 : qlB → St
 | .c0 l => St.init [(tl 5 l qaQ)]
def qvI (cx : Cx) (c : qlB) (r : qaD) : Prop := Wk prog cx (qd8 prog 18 [[0,0,1,4]] (TV.agg (qaC r))) (q2C c) .normal (q37 c)
abbrev qvJ (K : Nat) : Prop := ∀ c r, qg4 K c = some r → ∀ cx : Cx, cx.n = 6 → qvI cx c r
theorem q38 {K} (_ : qvJ K) {cx} (hn : cx.n = 6) {l} {r} (h : qg4 (K + 1) (.c0 l) = some r) : qvI cx (.c0 l) r := by
 rw [qg4] at h
 obtain ⟨x1, h2, h⟩ := qaU h
 obtain ⟨x3, h4, h⟩ := qaU h
 have h := oinj h; subst h
 exact wkR [rg1, rgG [oo, opI (.call [[5]] [(tl 5 l qaQ)] (tl 6 x1 qaA)), opI (.call [[6]] [(tl 6 x1 qaA)] (TV.agg (qaC x3))), oo]] hn (aC (qxD h2) <| aC (zeZ h4) <| aN)
theorem qtK : ∀ K : Nat, qvJ K
 | 0, c, r, h => by rw [qg4] at h; cases h
 | K + 1, .c0 .., r, h => fun cx hn => q38 (qtK K) hn h
theorem qd2 {K : Nat} {l : (List qbB)} {r : qaD} (h : qfQ K l = some r) : qc7 prog 18 [(tl 5 l qaQ)] (TV.agg (qaC r)) :=
 qbL [[0,0,1,4]] (by kernel_rfl) (by simp) fun cx hn => qtK K (.c0 l) r h cx hn
open Go.Proofs.Tryz (prog)
inductive ql6 where
 | c0 (l : (List qbB)) (n : Int) (most : Int)
 | c1 (l : (List qbB)) (most : Int) (i : Int)
 | c2 (l : (List qbB)) (most : Int) (i : Int) (k : Int)
def qbF : Nat → ql6 → Option Bool
 | 0, _ => none
 | K + 1, .c0 l n most =>
  bif (decide (n < (l.length : Int))) then
   some false
  else
   qbF K (.c1 l most (0 : Int))
 | K + 1, .c1 l most i =>
  bif (decide (i < (l.length : Int))) then
   qbF K (.c2 l most i (0 : Int))
  else
   some true
 | K + 1, .c2 l most i k =>
  bif (decide (k < (4 : Int))) then
   (gi l i).bind fun x2 =>
   bif (decide (k = 0)) then
    bif (decide (most < x2.Exp.e0)) then
     some false
    else
     qbF K (.c2 l most i (wI6 (k + (1 : Int))))
   else
    bif (decide (k = 1)) then
     bif (decide (most < x2.Exp.e1)) then
      some false
     else
      qbF K (.c2 l most i (wI6 (k + (1 : Int))))
    else
     bif (decide (k = 2)) then
      bif (decide (most < x2.Exp.e2)) then
       some false
      else
       qbF K (.c2 l most i (wI6 (k + (1 : Int))))
     else
      bif (decide (k = 3)) then
       bif (decide (most < x2.Exp.e3)) then
        some false
       else
        qbF K (.c2 l most i (wI6 (k + (1 : Int))))
      else
       none
  else
   qbF K (.c1 l most (wI6 (i + (1 : Int))))
def qm2 (K : Nat) (l : (List qbB)) (n : Int) (most : Int) : Option Bool := qbF K (.c0 l n most)
noncomputable def qfL : Code := qcS prog 7
noncomputable def q34 : ql6 → List Fr
 | .c0 .. => [.code qfL]
 | .c1 .. => [.code (.loop (atC qfL [1,1,0,1,0,0])), .blk 0, .code (atC qfL [1,1,1])]
 | .c2 .. => [.code (.loop (atC qfL [1,1,0,1,0,0,1,0,0,1,0,0])), .blk 2, .blk 1, .code (atC qfL [1,1,0,1,0,0,1,1]), .lp (atC qfL [1,1,0,1,0,0]), .blk 0, .code (atC qfL [1,1,1])]
def q5C : ql6 → St
 | .c0 l n most => St.init [(tl 5 l qaQ), (ti .i64 n), (ti .u8 most)]
 | .c1 l most i => ⟨[(0, vl 5 l qaQ), (2, vi .u8 most), (7, vi .i64 i)], [], []⟩
 | .c2 l most i k => ⟨[(0, vl 5 l qaQ), (2, vi .u8 most), (7, vi .i64 i), (8, vi .i64 k)], [], []⟩
def qnV (cx : Cx) (c : ql6) (r : Bool) : Prop := Wk prog cx (qd8 prog 7 [[0]] (TV.c (T.bool r))) (q34 c) .normal (q5C c)
abbrev qnW (K : Nat) : Prop := ∀ c r, qbF K c = some r → ∀ cx : Cx, cx.n = 32 → qnV cx c r
theorem q5F {K} (ih : qnW K) {cx} (hn : cx.n = 32) {l n most} {r} (h : qbF (K + 1) (.c0 l n most) = some r) : qnV cx (.c0 l n most) r := by
 rw [qbF] at h
 rcases qa0 h with ⟨h1, h⟩ | ⟨h1, h⟩
 ·have h := oinj h; subst h
  exact wkR [rg1, rgG [oo, opI (.ln (l.length : Int)), oo, oo], bTr, rg1] hn (aC (qdI l qaQ) <| aC h1 <| aN)
 ·exact wkG [rg1, rgG [oo, opI (.ln (l.length : Int)), oo, oo], bFa, rg1, .pre [.keep [0,2,7] []]] hn (aC (qdI l qaQ) <| aC h1 <| aN) (ih _ _ h cx hn)
theorem q5E {K} (ih : qnW K) {cx} (hn : cx.n = 32) {l most i} {r} (h : qbF (K + 1) (.c1 l most i) = some r) : qnV cx (.c1 l most i) r := by
 rw [qbF] at h
 rcases qa0 h with ⟨h1, h⟩ | ⟨h1, h⟩
 ·exact wkG [.go, rgG [oo, oo, opI (.ln (l.length : Int)), oo], bTr, rg1, .pre [.keep [0,2,7,8] []]] hn (aC (qdI l qaQ) <| aC h1 <| aN) (ih _ _ h cx hn)
 ·have h := oinj h; subst h
  exact wkR [.go, rgG [oo, oo, opI (.ln (l.length : Int)), oo], bFa, rg1] hn (aC (qdI l qaQ) <| aC h1 <| aN)
theorem q5D {K} (ih : qnW K) {cx} (hn : cx.n = 32) {l most i k} {r} (h : qbF (K + 1) (.c2 l most i k) = some r) : qnV cx (.c2 l most i k) r := by
 rw [qbF] at h
 rcases qa0 h with ⟨h1, h⟩ | ⟨h1, h⟩
 ·obtain ⟨x2, h3, h⟩ := qaU h
  rcases qa0 h with ⟨h4, h⟩ | ⟨h4, h⟩
  ·rcases qa0 h with ⟨h5, h⟩ | ⟨h5, h⟩
   ·have h := oinj h; subst h
    exact wkR [.go, rg2, bTr, rgG [oo, oo, oo, opI (.ix (qaQ x2)), oo, opI (.ia 0), oo, oo, oo], bTr, rg1] hn (aC h1 <| aC (qb5 h3) <| aC (qfP qaQ h3) <| aC (of_decide_eq_true h4 : k = ((0 : Nat) : Int)) <| aC h5 <| aN)
   ·exact wkG [.go, rg2, bTr, rgG [oo, oo, oo, opI (.ix (qaQ x2)), oo, opI (.ia 0), oo, oo, oo], bFa, rg3, .pre [.keep [0,2,7,8] []]] hn (aC h1 <| aC (qb5 h3) <| aC (qfP qaQ h3) <| aC (of_decide_eq_true h4 : k = ((0 : Nat) : Int)) <| aC h5 <| aN) (ih _ _ h cx hn)
  ·rcases qa0 h with ⟨h5, h⟩ | ⟨h5, h⟩
   ·rcases qa0 h with ⟨h6, h⟩ | ⟨h6, h⟩
    ·have h := oinj h; subst h
     exact wkR [.go, rg2, bTr, rgG [oo, oo, oo, opI (.ix (qaQ x2)), oo, opI (.ia 1), oo, oo, oo], bTr, rg1] hn (aC h1 <| aC (qb5 h3) <| aC (qfP qaQ h3) <| aC (of_decide_eq_true h5 : k = ((1 : Nat) : Int)) <| aC h6 <| aN)
    ·exact wkG [.go, rg2, bTr, rgG [oo, oo, oo, opI (.ix (qaQ x2)), oo, opI (.ia 1), oo, oo, oo], bFa, rg3, .pre [.keep [0,2,7,8] []]] hn (aC h1 <| aC (qb5 h3) <| aC (qfP qaQ h3) <| aC (of_decide_eq_true h5 : k = ((1 : Nat) : Int)) <| aC h6 <| aN) (ih _ _ h cx hn)
   ·rcases qa0 h with ⟨h6, h⟩ | ⟨h6, h⟩
    ·rcases qa0 h with ⟨h7, h⟩ | ⟨h7, h⟩
     ·have h := oinj h; subst h
      exact wkR [.go, rg2, bTr, rgG [oo, oo, oo, opI (.ix (qaQ x2)), oo, opI (.ia 2), oo, oo, oo], bTr, rg1] hn (aC h1 <| aC (qb5 h3) <| aC (qfP qaQ h3) <| aC (of_decide_eq_true h6 : k = ((2 : Nat) : Int)) <| aC h7 <| aN)
     ·exact wkG [.go, rg2, bTr, rgG [oo, oo, oo, opI (.ix (qaQ x2)), oo, opI (.ia 2), oo, oo, oo], bFa, rg3, .pre [.keep [0,2,7,8] []]] hn (aC h1 <| aC (qb5 h3) <| aC (qfP qaQ h3) <| aC (of_decide_eq_true h6 : k = ((2 : Nat) : Int)) <| aC h7 <| aN) (ih _ _ h cx hn)
    ·rcases qa0 h with ⟨h7, h⟩ | ⟨h7, h⟩
     ·rcases qa0 h with ⟨h8, h⟩ | ⟨h8, h⟩
      ·have h := oinj h; subst h
       exact wkR [.go, rg2, bTr, rgG [oo, oo, oo, opI (.ix (qaQ x2)), oo, opI (.ia 3), oo, oo, oo], bTr, rg1] hn (aC h1 <| aC (qb5 h3) <| aC (qfP qaQ h3) <| aC (of_decide_eq_true h7 : k = ((3 : Nat) : Int)) <| aC h8 <| aN)
      ·exact wkG [.go, rg2, bTr, rgG [oo, oo, oo, opI (.ix (qaQ x2)), oo, opI (.ia 3), oo, oo, oo], bFa, rg3, .pre [.keep [0,2,7,8] []]] hn (aC h1 <| aC (qb5 h3) <| aC (qfP qaQ h3) <| aC (of_decide_eq_true h7 : k = ((3 : Nat) : Int)) <| aC h8 <| aN) (ih _ _ h cx hn)
     ·cases h
 ·exact wkG [.go, rg2, bFa, rg3, .pre [.keep [0,2,7] []]] hn (aC h1 <| aN) (ih _ _ h cx hn)
theorem ql5 : ∀ K : Nat, qnW K
 | 0, c, r, h => by rw [qbF] at h; cases h
 | K + 1, .c0 .., r, h => fun cx hn => q5F (ql5 K) hn h
 | K + 1, .c1 .., r, h => fun cx hn => q5E (ql5 K) hn h
 | K + 1, .c2 .., r, h => fun cx hn => q5D (ql5 K) hn h
theorem qtC {K : Nat} {l : (List qbB)} {n : Int} {most : Int} {r : Bool} (h : qm2 K l n most = some r) : qc7 prog 7 [(tl 5 l qaQ), (ti .i64 n), (ti .u8 most)] (TV.c (T.bool r)) :=
 qbL [[0]] (by kernel_rfl) (by simp) fun cx hn => ql5 K (.c0 l n most) r h cx hn
def zmH (m : qbB) : Prop := (-128 ≤ m.Coef ∧ m.Coef < 128) ∧ (0 ≤ m.Exp.e0 ∧ m.Exp.e0 < 256) ∧ (0 ≤ m.Exp.e1 ∧ m.Exp.e1 < 256) ∧ (0 ≤ m.Exp.e2 ∧ m.Exp.e2 < 256) ∧ (0 ≤ m.Exp.e3 ∧ m.Exp.e3 < 256)
def tmOf (m : qbB) : Tm := ⟨m.Coef, ⟨m.Exp.e0.toNat, m.Exp.e1.toNat, m.Exp.e2.toNat, m.Exp.e3.toNat⟩⟩
def FewOk (l : List qbB) (n most : Nat) : Prop := l.length ≤ n ∧ ∀ m ∈ l, m.Exp.e0 ≤ most ∧ m.Exp.e1 ≤ most ∧ m.Exp.e2 ≤ most ∧ m.Exp.e3 ≤ most
theorem zxD {l : List qbB} {most : Nat} (hl : l.length ≤ 1000000) : ∀ (d i : Nat), i + d = l.length →
    ∃ b, Ev (fun K => qbF K (.c1 l (most : Int) (i : Int))) b ∧ (b = true → ∀ m ∈ l.drop i, m.Exp.e0 ≤ most ∧ m.Exp.e1 ≤ most ∧ m.Exp.e2 ≤ most ∧ m.Exp.e3 ≤ most)
  | 0, i, hi => by
    refine ⟨true, ?_, fun _ m hm => by rw [List.drop_eq_nil_of_le (by omega)] at hm; cases hm⟩
    refine qaW ?_
    simp only [qbF]
    exact ev_f (by simp; omega) (qa6 _)
  | d + 1, i, hi => by
    obtain ⟨t, ht⟩ : ∃ c, l[i]? = some c := ⟨_, List.getElem?_eq_getElem (by omega)⟩
    obtain ⟨b, h1, h2⟩ := zxD (most := most) hl d (i + 1) (by omega)
    have hg : gi l (i : Int) = some t := zaF ht
    have w0 : wI6 ((0 : Int) + 1) = 1 := by decide
    have w1 : wI6 ((1 : Int) + 1) = 2 := by decide
    have w2 : wI6 ((2 : Int) + 1) = 3 := by decide
    have w3 : wI6 ((3 : Int) + 1) = 4 := by decide
    have wi : wI6 ((i : Int) + 1) = ((i + 1 : Nat) : Int) := by rw [qdF (by omega)]; omega
    have hdr : l.drop i = t :: l.drop (i + 1) := by
      have hlt : i < l.length := by omega
      rw [List.drop_eq_getElem_cons hlt]
      congr 1
      rw [List.getElem?_eq_getElem hlt] at ht
      exact Option.some.inj ht
    by_cases hc : t.Exp.e0 ≤ most ∧ t.Exp.e1 ≤ most ∧ t.Exp.e2 ≤ most ∧ t.Exp.e3 ≤ most
    · refine ⟨b, ?_, fun hb m hm => ?_⟩
      · refine qaW ?_
        simp only [qbF]
        refine ev_t (by simp; omega) ?_
        refine qaW ?_
        simp only [qbF, w0]
        refine ev_t (by simp) (qb8 hg (ev_t rfl (ev_f (by simp; omega) ?_)))
        refine qaW ?_
        simp only [qbF, w1]
        refine ev_t (by simp) (qb8 hg (ev_f rfl (ev_t rfl (ev_f (by simp; omega) ?_))))
        refine qaW ?_
        simp only [qbF, w2]
        refine ev_t (by simp) (qb8 hg (ev_f rfl (ev_f rfl (ev_t rfl (ev_f (by simp; omega) ?_)))))
        refine qaW ?_
        simp only [qbF, w3]
        refine ev_t (by simp) (qb8 hg (ev_f rfl (ev_f rfl (ev_f rfl (ev_t rfl (ev_f (by simp; omega) ?_))))))
        refine qaW ?_
        simp only [qbF, wi]
        exact ev_f (by simp) h1
      · rw [hdr] at hm
        rcases List.mem_cons.1 hm with rfl | hm
        · exact hc
        · exact h2 hb m hm
    · refine ⟨false, ?_, fun hb => by cases hb⟩
      refine qaW ?_
      simp only [qbF]
      refine ev_t (by simp; omega) ?_
      refine qaW ?_
      simp only [qbF, w0]
      refine ev_t (by simp) (qb8 hg (ev_t rfl (znJ (fun _ => qa6 _) fun h0 => ?_)))
      refine qaW ?_
      simp only [qbF, w1]
      refine ev_t (by simp) (qb8 hg (ev_f rfl (ev_t rfl (znJ (fun _ => qa6 _) fun h1 => ?_))))
      refine qaW ?_
      simp only [qbF, w2]
      refine ev_t (by simp) (qb8 hg (ev_f rfl (ev_f rfl (ev_t rfl (znJ (fun _ => qa6 _) fun h2 => ?_)))))
      refine qaW ?_
      simp only [qbF, w3]
      refine ev_t (by simp) (qb8 hg (ev_f rfl (ev_f rfl (ev_f rfl (ev_t rfl (znJ (fun _ => qa6 _) fun h3 => ?_))))))
      have h0 := of_decide_eq_false h0
      have h1 := of_decide_eq_false h1
      have h2 := of_decide_eq_false h2
      have h3 := of_decide_eq_false h3
      exact absurd ⟨by omega, by omega, by omega, by omega⟩ hc
theorem few_ev (l : List qbB) {n most : Nat} (hn : n ≤ 1000000) : ∃ b, Ev (fun K => qm2 K l (n : Int) (most : Int)) b ∧ (b = true → FewOk l n most) := by
  by_cases h : n < l.length
  · refine ⟨false, ?_, fun h => by cases h⟩
    refine qaW ?_
    simp only [qm2, qbF]
    exact ev_t (by simp; omega) (qa6 _)
  · obtain ⟨b, h1, h2⟩ := zxD (l := l) (most := most) (by omega) l.length 0 (by omega)
    refine ⟨b, ?_, fun hb => ⟨by omega, h2 hb⟩⟩
    refine qaW ?_
    simp only [qm2, qbF]
    exact ev_f (by simp; omega) h1
theorem zaL {z : Int} (h : 0 < z) (h1 : z < 4294967296) : digs z = [z] := by
  rw [zaM h, Int.emod_eq_of_lt (by omega) h1, Int.ediv_eq_zero_of_lt (by omega) h1, qhR]
theorem zxO {n : Int} (h : -128 ≤ n ∧ n < 128) : Ev (fun K => qm1 K n) (mkI n) := by
  refine qaW ?_
  simp only [qm1, qhV]
  by_cases h1 : n < 0
  · refine ev_t (decide_eq_true h1) (qe4 (qa6 _) ?_)
    have e : (n.natAbs : Int) = -n := by omega
    rw [qdF (x := n) (by omega), qdF (by omega), q4M, Int.emod_eq_of_lt (by omega) (by omega)]
    unfold mkI
    rw [decide_eq_true h1, e, zaL (by omega) (by omega)]
    simp
  · refine ev_f (decide_eq_false h1) ?_
    by_cases h2 : n = 0
    · subst h2
      exact ev_t rfl (qe4 (qa6 _) q3I.symm)
    · refine ev_f (decide_eq_false h2) (qe4 (qa6 _) ?_)
      have e : (n.natAbs : Int) = n := by omega
      rw [q4M, Int.emod_eq_of_lt (by omega) (by omega)]
      unfold mkI
      rw [decide_eq_false h1, e, zaL (by omega) (by omega)]
theorem zn2 {l : List qbB} {m : qbB} (hm : zmH m) {i : Nat} (hi : l[i]? = some m) :
    (∀ {r}, Ev (fun K => qa1 K (.c3 [(tmOf m).enc] l (wI6 ((i : Int) + 1)))) r → Ev (fun K => qa1 K (.c2 ⟨mkI m.Coef, ⟨0, 0, 0, 0⟩⟩ l (i : Int) 0)) r) ∧
    (∀ {acc r}, acc.length < 1000000 → Ev (fun K => qa1 K (.c3 (acc ++ [(tmOf m).enc]) l (wI6 ((i : Int) + 1)))) r → Ev (fun K => qa1 K (.c4 ⟨mkI m.Coef, ⟨0, 0, 0, 0⟩⟩ acc l (i : Int) 0)) r) := by
  have hg : gi l (i : Int) = some m := zaF hi
  have w0 : wI6 ((0 : Int) + 1) = 1 := by decide
  have w1 : wI6 ((1 : Int) + 1) = 2 := by decide
  have w2 : wI6 ((2 : Int) + 1) = 3 := by decide
  have w3 : wI6 ((3 : Int) + 1) = 4 := by decide
  obtain ⟨hc, h0, h1, h2, h3⟩ := hm
  have e : (⟨mkI m.Coef, ⟨m.Exp.e0, m.Exp.e1, m.Exp.e2, m.Exp.e3⟩⟩ : qaM) = (tmOf m).enc := by
    unfold tmOf Tm.enc Mn.enc
    simp only [Int.toNat_of_nonneg h0.1, Int.toNat_of_nonneg h1.1, Int.toNat_of_nonneg h2.1, Int.toNat_of_nonneg h3.1]
  refine ⟨fun {r} h => ?_, fun {acc r} hal h => ?_⟩
  · refine qaW ?_
    simp only [qa1, w0]
    refine ev_t (by simp) (qb8 hg (ev_t rfl ?_))
    rw [qdF (x := m.Exp.e0) (by omega)]
    refine qaW ?_
    simp only [qa1, w1]
    refine ev_t (by simp) (qb8 hg (ev_f rfl (ev_t rfl ?_)))
    rw [qdF (x := m.Exp.e1) (by omega)]
    refine qaW ?_
    simp only [qa1, w2]
    refine ev_t (by simp) (qb8 hg (ev_f rfl (ev_f rfl (ev_t rfl ?_))))
    rw [qdF (x := m.Exp.e2) (by omega)]
    refine qaW ?_
    simp only [qa1, w3]
    refine ev_t (by simp) (qb8 hg (ev_f rfl (ev_f rfl (ev_f rfl (ev_t rfl ?_)))))
    rw [qdF (x := m.Exp.e3) (by omega)]
    refine qaW ?_
    simp only [qa1, e]
    exact ev_f (by simp) h
  · refine qaW ?_
    simp only [qa1, w0]
    refine ev_t (by simp) (qb8 hg (ev_t rfl ?_))
    rw [qdF (x := m.Exp.e0) (by omega)]
    refine qaW ?_
    simp only [qa1, w1]
    refine ev_t (by simp) (qb8 hg (ev_f rfl (ev_t rfl ?_)))
    rw [qdF (x := m.Exp.e1) (by omega)]
    refine qaW ?_
    simp only [qa1, w2]
    refine ev_t (by simp) (qb8 hg (ev_f rfl (ev_f rfl (ev_t rfl ?_))))
    rw [qdF (x := m.Exp.e2) (by omega)]
    refine qaW ?_
    simp only [qa1, w3]
    refine ev_t (by simp) (qb8 hg (ev_f rfl (ev_f rfl (ev_f rfl (ev_t rfl ?_)))))
    rw [qdF (x := m.Exp.e3) (by omega)]
    refine qaW ?_
    simp only [qa1, e]
    exact ev_f (by simp) (qgA (by simp; omega) h)
theorem zn3 {l : List qbB} (hm : ∀ m ∈ l, zmH m) (hl : l.length ≤ 1000000) : ∀ (d i : Nat), i + d = l.length →
    Ev (fun K => qa1 K (.c3 ((l.take i).map fun m => (tmOf m).enc) l (i : Int))) (l.map fun m => (tmOf m).enc)
  | 0, i, hi => by
    refine qaW ?_
    simp only [qa1]
    rw [List.take_of_length_le (by omega)]
    exact ev_f (by simp; omega) (qa6 _)
  | d + 1, i, hi => by
    obtain ⟨t, ht⟩ : ∃ c, l[i]? = some c := ⟨_, List.getElem?_eq_getElem (by omega)⟩
    have hok := hm t (List.mem_of_getElem? ht)
    have ih := zn3 hm hl d (i + 1) (by omega)
    refine qaW ?_
    simp only [qa1]
    refine ev_t (by simp; omega) (qb8 (zaF ht) (qaR (zxO hok.1) ?_))
    refine (zn2 hok ht).2 (by simp; omega) ?_
    have wi : wI6 ((i : Int) + 1) = ((i + 1 : Nat) : Int) := by rw [qdF (by omega)]; omega
    rw [wi]
    have e : ((l.take i).map fun m => (tmOf m).enc) ++ [(tmOf t).enc] = (l.take (i + 1)).map fun m => (tmOf m).enc := by rw [List.take_add_one, ht, List.map_append]; rfl
    rw [e]
    exact ih
theorem zsV {l : List qbB} (hm : ∀ m ∈ l, zmH m) (hl : l.length ≤ 1000000) : Ev (fun K => qmD K l) ((l.map tmOf).map Tm.enc) := by
  rw [List.map_map]
  refine qaW ?_
  simp only [qmD, qa1]
  refine qaW ?_
  simp only [qa1]
  cases l with
  | nil => exact ev_f (by simp) (qa6 _)
  | cons t l =>
    have hok := hm t (by simp)
    have ht : (t :: l)[0]? = some t := rfl
    refine ev_t (decide_eq_true (by simp only [List.length_cons]; omega)) (qb8 (x := t) rfl (qaR (zxO hok.1) ?_))
    refine (zn2 hok ht).1 ?_
    have wi : wI6 (((0 : Nat) : Int) + 1) = ((1 : Nat) : Int) := by decide
    rw [wi]
    exact zn3 hm hl l.length 1 (by simp only [List.length_cons]; omega)
def qxC (lv e : Nat) (t : P) : P := if e = 0 then t else .p lv (List.replicate e (.k 0) ++ [t])
theorem ziK {lv e : Nat} {t : P} (h : t.isZ = false) : (qxC lv e t).isZ = false := by
  unfold qxC; split
  · exact h
  · rfl
theorem znA {lv e : Nat} {t : P} (h : t.isZ = false) (hC : P.C (lv - 1) t) (h1 : 1 ≤ lv) : P.C lv (qxC lv e t) := by
  unfold qxC; split
  · exact zuJ (by omega) hC
  · rename_i he
    rw [P.C]
    refine ⟨h1, Nat.le_refl _, by simp; omega, zwF fun c hc => ?_, fun z hz => ?_⟩
    · rcases List.mem_append.1 hc with hc | hc
      · rw [(List.mem_replicate.1 hc).2, P.C]; trivial
      · rw [List.mem_singleton.1 hc]; exact hC
    · rw [List.getLast?_append] at hz
      simp at hz
      rw [← hz]; exact h
theorem zm9 {n m lv e : Nat} {t : P} (h : P.W n m t) (hm : e + 1 ≤ m) : P.W n m (qxC lv e t) := by
  unfold qxC; split
  · exact h
  · rw [P.W]
    refine ⟨by simp; omega, zwA fun c hc => ?_⟩
    rcases List.mem_append.1 hc with hc | hc
    · rw [(List.mem_replicate.1 hc).2, P.W]; have := qfV n; simpa using this
    · rw [List.mem_singleton.1 hc]; exact h
theorem ztW (ρ : Nat → Rat) (x : Rat) (t : P) : ∀ e : Nat, P.evs ρ x (List.replicate e (.k 0) ++ [t]) = x ^ e * t.ev ρ
  | 0 => by simp only [List.replicate_zero, List.nil_append, P.evs]; grind
  | e + 1 => by
    rw [List.replicate_succ, List.cons_append, P.evs, ztW ρ x t e, P.ev, Rat.pow_succ, Rat.intCast_zero]; grind
theorem zgI (ρ : Nat → Rat) (lv e : Nat) (t : P) : (qxC lv e t).ev ρ = ρ lv ^ e * t.ev ρ := by
  unfold qxC; split
  · rename_i h; rw [h]; grind
  · rw [P.ev, ztW]
def zrT (t : Tm) : P := qxC 4 t.m.e3 (qxC 3 t.m.e2 (qxC 2 t.m.e1 (qxC 1 t.m.e0 (.k t.c))))
theorem zx5 {t : Tm} (h : t.c ≠ 0) : P.C 4 (zrT t) := by
  have z0 : (P.k t.c).isZ = false := by simp [P.isZ, h]
  have z1 := ziK (lv := 1) (e := t.m.e0) z0
  have z2 := ziK (lv := 2) (e := t.m.e1) z1
  have z3 := ziK (lv := 3) (e := t.m.e2) z2
  exact znA z3 (znA z2 (znA z1 (znA z0 (by rw [P.C]; trivial) (by omega)) (by omega)) (by omega)) (by omega)
theorem zuV (ρ : Nat → Rat) (t : Tm) : (zrT t).ev ρ = t.ev ρ := by
  unfold zrT
  rw [zgI, zgI, zgI, zgI, P.ev, Tm.ev, Mn.ev]
  grind
def zaU (m : Nat) (t : Tm) : Prop := t.m.e0 < m ∧ t.m.e1 < m ∧ t.m.e2 < m ∧ t.m.e3 < m
theorem zx4 {n m : Nat} {t : Tm} (h : (t.c.natAbs : Int) < 4294967296 ^ n) (hm : zaU m t) : P.W n m (zrT t) := by
  obtain ⟨h0, h1, h2, h3⟩ := hm
  exact zm9 (zm9 (zm9 (zm9 (by rw [P.W]; exact h) h0) h1) h2) h3
theorem zvH (e : Nat) (t : P) : (List.replicate (e + 1) (qaC (qaD.mk (0 : Int) (qaE.mk false []) []))).set e (qaC t.enc) = P.raws (List.replicate e (.k 0) ++ [t]) := by
  rw [zmW, zmV]
  congr 1
  rw [List.replicate_succ', List.set_append_right _ _ (by simp)]
  simp
theorem zyF (e : Nat) : gid qcC (List.replicate (e + 1) (qaC (qaD.mk (0 : Int) (qaE.mk false []) []))) (e : Int) = some (P.k 0).enc := by
  rw [zmW]
  exact qj7 (by rw [List.getElem?_replicate, if_pos (by omega)])
def zmZ (t : Tm) : Nat → P
  | 0 => .k t.c
  | 1 => qxC 1 t.m.e0 (.k t.c)
  | 2 => qxC 2 t.m.e1 (qxC 1 t.m.e0 (.k t.c))
  | 3 => qxC 3 t.m.e2 (qxC 2 t.m.e1 (qxC 1 t.m.e0 (.k t.c)))
  | _ => zrT t
theorem ztI {lv e : Nat} (he : 0 < e) (t : P) : (qxC lv e t).enc = ⟨(lv : Int), ⟨false, []⟩, (List.replicate (wI6 ((e : Int) + 1)).toNat (qaC (qaD.mk (0 : Int) (qaE.mk false []) []))).set (e : Int).toNat (qaC t.enc)⟩ ∨ 9223372036854775807 ≤ e := by
  by_cases h : 9223372036854775807 ≤ e
  · exact .inr h
  · left
    rw [qdF (by omega), show ((e : Int) + 1).toNat = e + 1 by omega, Int.toNat_natCast, zvH]
    unfold qxC
    rw [if_neg (by omega), P.enc]
theorem zyN {n m : Nat} (hn : n + 1 ≤ 1000000) (hm : m ≤ 1000000) (b2 : qaD) (b12 : List qaM) {t : Tm} {out : P} (hC : P.C 4 out) (hW : P.W n m out) (hc : t.c ≠ 0) (ht : (t.c.natAbs : Int) < 4294967296 ^ n) (he : zaU m t) :
    ∃ r, P.C 4 r ∧ P.W (n + 1) m r ∧ Ev (fun K => qsD K b2 out.enc b12 t.m.enc (mkI t.c)) r.enc ∧ ∀ ρ, r.ev ρ = out.ev ρ + t.ev ρ := by
  obtain ⟨r, h1, h2, h3, h4⟩ := zj8 (n := n) (m := m) hn (by have := he.1; omega) hm 4 out (zrT t) hC (zx5 hc) hW (zx4 ht he)
  refine ⟨r, h1, h2, ?_, fun ρ => by rw [h4 ρ, zuV]⟩
  obtain ⟨e0, e1, e2, e3⟩ := he
  have w0 : wI6 ((0 : Int) + 1) = 1 := by decide
  have w1 : wI6 ((1 : Int) + 1) = 2 := by decide
  have w2 : wI6 ((2 : Int) + 1) = 3 := by decide
  have w3 : wI6 ((3 : Int) + 1) = 4 := by decide
  have wi : ∀ e : Nat, e < m → wI6 ((e : Int) + 1) = (e : Int) + 1 := fun e h => qdF (by omega)
  have nz : ∀ {lv e : Nat} (t : P), 0 < e → e < m → (⟨(lv : Int), ⟨false, []⟩, (List.replicate (wI6 ((e : Int) + 1)).toNat (qaC (qaD.mk (0 : Int) (qaE.mk false []) []))).set (e : Int).toNat (qaC t.enc)⟩ : qaD) = (qxC lv e t).enc := fun t h h' => by
    rcases ztI h t with h | h
    · exact h.symm
    · omega
  have zz : ∀ {lv : Nat} (t : P), t = qxC lv 0 t := fun t => rfl
  have rg : ∀ e : Nat, e < m → gid qcC (List.replicate (wI6 ((e : Int) + 1)).toNat (qaC (qaD.mk (0 : Int) (qaE.mk false []) []))) (e : Int) = some (P.k 0).enc := fun e h => by
    rw [wi e h, show ((e : Int) + 1).toNat = e + 1 by omega]
    exact zyF e
  obtain ⟨c, ⟨x0, x1, x2, x3⟩⟩ := t
  refine qaW ?_
  simp only [qsD, qbU]
  have g0 : Ev (fun K => qbU K (.c2 b2 out.enc (zmZ ⟨c, ⟨x0, x1, x2, x3⟩⟩ 4).enc b12 (Mn.mk x0 x1 x2 x3).enc 3)) r.enc := by
    refine qaW ?_
    simp only [qbU, w3]
    refine qaW ?_
    simp only [qbU]
    exact ev_f rfl (qaR h3 (qa6 _))
  have g1 : Ev (fun K => qbU K (.c2 b2 out.enc (zmZ ⟨c, ⟨x0, x1, x2, x3⟩⟩ 3).enc b12 (Mn.mk x0 x1 x2 x3).enc 2)) r.enc := by
    refine qaW ?_
    simp only [qbU, w2]
    refine qaW ?_
    simp only [qbU, w3]
    refine ev_t rfl (ev_f rfl (ev_f rfl (ev_f rfl (ev_t rfl ?_))))
    by_cases h : 0 < x3
    · refine ev_t (decide_eq_true (by show (0 : Int) < (x3 : Int); omega)) (qgA (by rw [show (Mn.mk x0 x1 x2 x3).enc.e3 = (x3 : Int) from rfl, wi x3 e3]; simp only at e3; omega) (qb8 (rg x3 e3) ?_))
      have := nz (lv := 4) (zmZ ⟨c, ⟨x0, x1, x2, x3⟩⟩ 3) h e3
      simp only [Mn.enc] at this ⊢ g0
      rw [show ((4 : Nat) : Int) = 4 from rfl] at this
      rw [this]
      exact g0
    · have h : x3 = 0 := by omega
      subst h
      exact ev_f rfl g0
  have g2 : Ev (fun K => qbU K (.c2 b2 out.enc (zmZ ⟨c, ⟨x0, x1, x2, x3⟩⟩ 2).enc b12 (Mn.mk x0 x1 x2 x3).enc 1)) r.enc := by
    refine qaW ?_
    simp only [qbU, w1]
    refine qaW ?_
    simp only [qbU, w2]
    refine ev_t rfl (ev_f rfl (ev_f rfl (ev_t rfl ?_)))
    by_cases h : 0 < x2
    · refine ev_t (decide_eq_true (by show (0 : Int) < (x2 : Int); omega)) (qgA (by rw [show (Mn.mk x0 x1 x2 x3).enc.e2 = (x2 : Int) from rfl, wi x2 e2]; simp only at e2; omega) (qb8 (rg x2 e2) ?_))
      have := nz (lv := 3) (zmZ ⟨c, ⟨x0, x1, x2, x3⟩⟩ 2) h e2
      simp only [Mn.enc] at this ⊢ g1
      rw [show ((3 : Nat) : Int) = 3 from rfl] at this
      rw [this]
      exact g1
    · have h : x2 = 0 := by omega
      subst h
      exact ev_f rfl g1
  have g3 : Ev (fun K => qbU K (.c2 b2 out.enc (zmZ ⟨c, ⟨x0, x1, x2, x3⟩⟩ 1).enc b12 (Mn.mk x0 x1 x2 x3).enc 0)) r.enc := by
    refine qaW ?_
    simp only [qbU, w0]
    refine qaW ?_
    simp only [qbU, w1]
    refine ev_t rfl (ev_f rfl (ev_t rfl ?_))
    by_cases h : 0 < x1
    · refine ev_t (decide_eq_true (by show (0 : Int) < (x1 : Int); omega)) (qgA (by rw [show (Mn.mk x0 x1 x2 x3).enc.e1 = (x1 : Int) from rfl, wi x1 e1]; simp only at e1; omega) (qb8 (rg x1 e1) ?_))
      have := nz (lv := 2) (zmZ ⟨c, ⟨x0, x1, x2, x3⟩⟩ 1) h e1
      simp only [Mn.enc] at this ⊢ g2
      rw [show ((2 : Nat) : Int) = 2 from rfl] at this
      rw [this]
      exact g2
    · have h : x1 = 0 := by omega
      subst h
      exact ev_f rfl g2
  refine qaW ?_
  simp only [qbU, w0]
  refine ev_t rfl (ev_t rfl ?_)
  by_cases h : 0 < x0
  · refine ev_t (decide_eq_true (by show (0 : Int) < (x0 : Int); omega)) (qgA (by rw [show (Mn.mk x0 x1 x2 x3).enc.e0 = (x0 : Int) from rfl, wi x0 e0]; simp only at e0; omega) (qb8 (rg x0 e0) ?_))
    have := nz (lv := 1) (zmZ ⟨c, ⟨x0, x1, x2, x3⟩⟩ 0) h e0
    simp only [Mn.enc] at this ⊢ g3
    rw [show ((1 : Nat) : Int) = 1 from rfl] at this
    rw [show qaC { Level := 0, Const := mkI c, Coefs := [] } = qaC (zmZ ⟨c, ⟨x0, x1, x2, x3⟩⟩ 0).enc from rfl, this]
    exact g3
  · have h : x0 = 0 := by omega
    subst h
    exact ev_f rfl g3
theorem it_of {n m : Nat} (hm : m ≤ 1000000) (b2 : qaD) (b12 : List qaM) : ∀ (rest : List Tm) (acc : P) (k : Nat), n + k + rest.length ≤ 1000000 → (∀ t ∈ rest, t.c ≠ 0 ∧ (t.c.natAbs : Int) < 4294967296 ^ n ∧ zaU m t) → P.C 4 acc → P.W (n + k) m acc →
    ∃ r, P.C 4 r ∧ P.W (n + k + rest.length) m r ∧ Ev (fun K => itT K (fun z m c => qsD K b2 z b12 m c) acc.enc (rest.map Tm.enc)) r.enc ∧ ∀ ρ, r.ev ρ = acc.ev ρ + sumT ρ rest
  | [], acc, k, hk, hr, hC, hW => ⟨acc, hC, hW, qa6 _, fun ρ => by rw [sumT]; grind⟩
  | t :: rest, acc, k, hk, hr, hC, hW => by
    obtain ⟨hc, ht, he⟩ := hr t (by simp)
    simp only [List.length_cons] at hk ⊢
    have ht' : (t.c.natAbs : Int) < 4294967296 ^ (n + k) := by have := qw9 (m := n) (n := n + k) (by omega); omega
    obtain ⟨r, h1, h2, h3, h4⟩ := zyN (n := n + k) (by omega) hm b2 b12 hC hW hc ht' he
    obtain ⟨q, k1, k2, k3, k4⟩ := it_of hm b2 b12 rest r (k + 1) (by omega) (fun t h => hr t (by simp [h])) h1 h2
    refine ⟨q, k1, ?_, ?_, fun ρ => by rw [k4 ρ, h4 ρ, sumT]; grind⟩
    · rw [show n + k + (rest.length + 1) = n + (k + 1) + rest.length by omega]; exact k2
    · have sa := qrL ht (by omega)
      have hN := qkU sa.1 (by have := sa.2; omega)
      rw [qdQ] at hN
      exact qaR hN (qaR h3 k3)
theorem zh2 {n m : Nat} {l out : List Tm} (h : zy9 l out) (hs : ((sumA l : Nat) : Int) < 4294967296 ^ n) (he : ∀ t ∈ l, zaU m t) : ∀ t ∈ out, t.c ≠ 0 ∧ (t.c.natAbs : Int) < 4294967296 ^ n ∧ zaU m t := by
  intro t ht
  obtain ⟨h1, s, h2, h3⟩ := h.mem t ht
  have h4 := zqR ht
  have h5 := h.abs
  have h6 := he s h2
  unfold zaU at h6 ⊢
  rw [h3] at h6
  exact ⟨h1, by omega, h6⟩
theorem zmS {n m : Nat} {l : List Tm} (hm : m ≤ 1000000) (hn : n + l.length ≤ 1000000) (hs : ((sumA l : Nat) : Int) < 4294967296 ^ n) (he : ∀ t ∈ l, zaU m t) :
    ∃ r, P.C 4 r ∧ P.W (n + l.length) m r ∧ Ev (fun K => q4D K (l.map Tm.enc)) r.enc ∧ ∀ ρ, r.ev ρ = sumT ρ l := by
  obtain ⟨out, h1, h2⟩ := quX (l := l) (n := n) (by omega) (by omega) hs
  have hol := h2.len
  obtain ⟨r, k1, k2, k3, k4⟩ := it_of (n := n) hm ⟨0, ⟨false, []⟩, []⟩ (out.map Tm.enc) out (.k 0) 0 (by omega) (zh2 h2 hs he) (by rw [P.C]; trivial) (by rw [P.W]; have := qfV (n + 0); simpa using this)
  refine ⟨r, k1, zpB (by omega) k2, ?_, fun ρ => by rw [k4 ρ, h2.ev, P.ev, Rat.intCast_zero, Rat.zero_add]⟩
  refine qaW ?_
  simp only [q4D, qi4]
  refine qaR (x := out.map Tm.enc) ?_ ?_
  · refine qaW ?_
    simp only [qo0, qhG]
    exact qaR h1 (qa6 _)
  · refine qaW ?_
    simp only [qi4]
    rw [P.enc, q3I] at k3
    exact qaR k3 (qgA (by rw [List.length_map]; omega) (qa6 _))
theorem zyA {l : List qbB} (hm : ∀ m ∈ l, zmH m) : sumA (l.map tmOf) ≤ 128 * l.length := by
  induction l with
  | nil => exact Nat.le_refl _
  | cons a l ih =>
    have h1 := ih fun m h => hm m (by simp [h])
    have h2 := (hm a (by simp)).1
    simp only [List.map_cons, sumA, List.length_cons]
    show a.Coef.natAbs + _ ≤ _
    omega
theorem zy8 {l : List qbB} (hm : ∀ m ∈ l, zmH m) (hf : FewOk l 6 4) :
    ∃ r, P.C 4 r ∧ P.W 7 5 r ∧ Ev (fun K => qfQ K l) r.enc ∧ ∀ ρ, r.ev ρ = sumT ρ (l.map tmOf) := by
  have hs := zyA hm
  have hl := hf.1
  have hll : (l.map tmOf).length = l.length := List.length_map ..
  obtain ⟨r, k1, k2, k3, k4⟩ := zmS (n := 1) (m := 5) (l := l.map tmOf) (by omega) (by omega) (by rw [Int.pow_succ, Int.pow_zero]; omega) (fun t ht => by
    obtain ⟨x, hx, rfl⟩ := List.mem_map.1 ht
    have := hf.2 x hx
    obtain ⟨_, m0, m1, m2, m3⟩ := hm x hx
    refine ⟨?_, ?_, ?_, ?_⟩
    · show x.Exp.e0.toNat < 5; omega
    · show x.Exp.e1.toNat < 5; omega
    · show x.Exp.e2.toNat < 5; omega
    · show x.Exp.e3.toNat < 5; omega)
  refine ⟨r, k1, zpB (by omega) k2, ?_, k4⟩
  refine qaW ?_
  simp only [qfQ, qg4]
  exact qaR (zsV hm (by omega)) (qaR k3 (qa6 _))
open Go.Proofs.Tryz (prog)
inductive qpN where
 | c0 (p : qaD) (m : qa7)
 | c1 (p : qaD) (m : qa7) (t17 : (List (List T))) (t18 : Int) (t19 : Int)
 | c2 (p : qaD) (m : qa7) (r33 : (List qaM)) (t17 : (List (List T))) (t18 : Int) (t19 : Int)
def qa9 : Nat → qpN → Option (List qaM)
 | 0, _ => none
 | K + 1, .c0 p m =>
  bif (decide (p.Level = (0 : Int))) then
   some ([(qaM.mk p.Const m)] : List qaM)
  else
   qa9 K (.c1 p m p.Coefs (p.Coefs.length : Int) (0 : Int))
 | K + 1, .c1 p m t17 t18 t19 =>
  bif (decide (t19 < t18)) then
   (gid qcC t17 t19).bind fun x2 =>
   bif (decide ((wI6 (p.Level - (1 : Int))) = 0)) then
    (qa9 K (.c0 x2 (qa7.mk t19 m.e1 m.e2 m.e3))).bind fun x5 =>
    bif (decide (0 < x5.length)) then
     gd (x5.length * 64 ≤ 140737488355328) <|
     qa9 K (.c2 p (qa7.mk t19 m.e1 m.e2 m.e3) x5 t17 t18 (wI6 (t19 + (1 : Int))))
    else
     qa9 K (.c1 p (qa7.mk t19 m.e1 m.e2 m.e3) t17 t18 (wI6 (t19 + (1 : Int))))
   else
    bif (decide ((wI6 (p.Level - (1 : Int))) = 1)) then
     (qa9 K (.c0 x2 (qa7.mk m.e0 t19 m.e2 m.e3))).bind fun x6 =>
     bif (decide (0 < x6.length)) then
      gd (x6.length * 64 ≤ 140737488355328) <|
      qa9 K (.c2 p (qa7.mk m.e0 t19 m.e2 m.e3) x6 t17 t18 (wI6 (t19 + (1 : Int))))
     else
      qa9 K (.c1 p (qa7.mk m.e0 t19 m.e2 m.e3) t17 t18 (wI6 (t19 + (1 : Int))))
    else
     bif (decide ((wI6 (p.Level - (1 : Int))) = 2)) then
      (qa9 K (.c0 x2 (qa7.mk m.e0 m.e1 t19 m.e3))).bind fun x7 =>
      bif (decide (0 < x7.length)) then
       gd (x7.length * 64 ≤ 140737488355328) <|
       qa9 K (.c2 p (qa7.mk m.e0 m.e1 t19 m.e3) x7 t17 t18 (wI6 (t19 + (1 : Int))))
      else
       qa9 K (.c1 p (qa7.mk m.e0 m.e1 t19 m.e3) t17 t18 (wI6 (t19 + (1 : Int))))
     else
      bif (decide ((wI6 (p.Level - (1 : Int))) = 3)) then
       (qa9 K (.c0 x2 (qa7.mk m.e0 m.e1 m.e2 t19))).bind fun x8 =>
       bif (decide (0 < x8.length)) then
        gd (x8.length * 64 ≤ 140737488355328) <|
        qa9 K (.c2 p (qa7.mk m.e0 m.e1 m.e2 t19) x8 t17 t18 (wI6 (t19 + (1 : Int))))
       else
        qa9 K (.c1 p (qa7.mk m.e0 m.e1 m.e2 t19) t17 t18 (wI6 (t19 + (1 : Int))))
      else
       none
  else
   some []
 | K + 1, .c2 p m r33 t17 t18 t19 =>
  bif (decide (t19 < t18)) then
   (gid qcC t17 t19).bind fun x2 =>
   bif (decide ((wI6 (p.Level - (1 : Int))) = 0)) then
    (qa9 K (.c0 x2 (qa7.mk t19 m.e1 m.e2 m.e3))).bind fun x5 =>
    gd ((r33 ++ x5).length * 64 ≤ 140737488355328) <|
    qa9 K (.c2 p (qa7.mk t19 m.e1 m.e2 m.e3) (r33 ++ x5) t17 t18 (wI6 (t19 + (1 : Int))))
   else
    bif (decide ((wI6 (p.Level - (1 : Int))) = 1)) then
     (qa9 K (.c0 x2 (qa7.mk m.e0 t19 m.e2 m.e3))).bind fun x6 =>
     gd ((r33 ++ x6).length * 64 ≤ 140737488355328) <|
     qa9 K (.c2 p (qa7.mk m.e0 t19 m.e2 m.e3) (r33 ++ x6) t17 t18 (wI6 (t19 + (1 : Int))))
    else
     bif (decide ((wI6 (p.Level - (1 : Int))) = 2)) then
      (qa9 K (.c0 x2 (qa7.mk m.e0 m.e1 t19 m.e3))).bind fun x7 =>
      gd ((r33 ++ x7).length * 64 ≤ 140737488355328) <|
      qa9 K (.c2 p (qa7.mk m.e0 m.e1 t19 m.e3) (r33 ++ x7) t17 t18 (wI6 (t19 + (1 : Int))))
     else
      bif (decide ((wI6 (p.Level - (1 : Int))) = 3)) then
       (qa9 K (.c0 x2 (qa7.mk m.e0 m.e1 m.e2 t19))).bind fun x8 =>
       gd ((r33 ++ x8).length * 64 ≤ 140737488355328) <|
       qa9 K (.c2 p (qa7.mk m.e0 m.e1 m.e2 t19) (r33 ++ x8) t17 t18 (wI6 (t19 + (1 : Int))))
      else
       none
  else
   some r33
def q8H (K : Nat) (p : qaD) (m : qa7) : Option (List qaM) := qa9 K (.c0 p m)
noncomputable def qlU : Code := qcS prog 123
noncomputable def zbB : qpN → List Fr
 | .c0 .. => [.code qlU]
 | .c1 .. => [.code (.loop (atC qlU [1,1,1,0,1,0,0])), .blk 0, .code (atC qlU [1,1,1,1])]
 | .c2 .. => [.code (.loop (atC qlU [1,1,1,0,1,0,0])), .blk 0, .code (atC qlU [1,1,1,1])]
def zeG : qpN → St
 | .c0 p m => St.init [(TV.agg (qaC p)), (TV.agg (qbE m))]
 | .c1 p m t17 t18 t19 => ⟨[(2, .c (C.ptr 2 0)), (3, .c (C.ptr 3 0)), (5, .c (C.nil)), (17, vl 4 t17 rid), (18, vi .i64 t18), (19, vi .i64 t19)], [(2, .var ((qaC p).map C.t)), (3, .var ((qbE m).map C.t))], []⟩
 | .c2 p m r33 t17 t18 t19 => ⟨[(2, .c (C.ptr 2 0)), (3, .c (C.ptr 3 0)), (5, .c (C.row 33 0 r33.length)), (17, vl 4 t17 rid), (18, vi .i64 t18), (19, vi .i64 t19)], [(2, .var ((qaC p).map C.t)), (3, .var ((qbE m).map C.t)), (33, .row 173 6 (r33.map qaA) 0)], []⟩
def qr2 (cx : Cx) (c : qpN) (r : (List qaM)) : Prop := Wk prog cx (qd8 prog 123 [[6]] (tl 6 r qaA)) (zbB c) .normal (zeG c)
abbrev qo3 (K : Nat) : Prop := ∀ c r, qa9 K c = some r → ∀ cx : Cx, cx.n = 36 → qr2 cx c r
theorem qeR (K : Nat) (ih : qo3 K) {p : qaD} {m : qa7} {r : (List qaM)} (h : qa9 K (.c0 p m) = some r) : qc7 prog 123 [(TV.agg (qaC p)), (TV.agg (qbE m))] (tl 6 r qaA) :=
 qbL [[6]] (by kernel_rfl) (by simp) fun cx hn => ih (.c0 p m) r h cx hn
theorem zeJ {K} (ih : qo3 K) {cx} (hn : cx.n = 36) {p m} {r} (h : qa9 (K + 1) (.c0 p m) = some r) : qr2 cx (.c0 p m) r := by
 rw [qa9] at h
 rcases qa0 h with ⟨h1, h⟩ | ⟨h1, h⟩
 ·have h := oinj h; subst h
  exact wkR [rg3, rg3, bTr, rgG [oo, oo, oo, oo, opI (.lit (([(qaM.mk p.Const m)] : List qaM).map qaA)), oo, .snap 4 (max 0 (0 + 1)) (([(qaM.mk p.Const m)] : List qaM).map qaA)]] hn (aC h1 <| aC (by kernel_rfl : [(T.bool p.Const.Neg), (T.sl 1 (p.Const.Abs.map qaF)), (T.int .i64 m.e0), (T.int .i64 m.e1), (T.int .i64 m.e2), (T.int .i64 m.e3)] = (([(qaM.mk p.Const m)] : List qaM).map qaA).flatten) <| aC (qeH _ _ _ (by simp) : ((([(qaM.mk p.Const m)] : List qaM).map qaA).drop 0).take 1 = ([(qaM.mk p.Const m)] : List qaM).map qaA) <| aC (rfl : (max 0 (0 + 1)) = (max 0 (0 + 1))) <| aN)
 ·exact wkG [rg3, rg3, bFa, rg1, rgG [oo, oo, opI (.ln (p.Coefs.length : Int)), oo], .pre [.keep [2,3,5,17,18,19] [2,3]]] hn (aC h1 <| aC (qdI p.Coefs rid) <| aN) (ih _ _ h cx hn)
theorem zeI {K} (ih : qo3 K) {cx} (hn : cx.n = 36) {p m t17 t18 t19} {r} (h : qa9 (K + 1) (.c1 p m t17 t18 t19) = some r) : qr2 cx (.c1 p m t17 t18 t19) r := by
 rw [qa9] at h
 rcases qa0 h with ⟨h1, h⟩ | ⟨h1, h⟩
 ·obtain ⟨x2, h3, h⟩ := qaU h
  rcases qa0 h with ⟨h4, h⟩ | ⟨h4, h⟩
  ·obtain ⟨x5, h6, h⟩ := qaU h
   rcases qa0 h with ⟨h8, h⟩ | ⟨h8, h⟩
   ·obtain ⟨h7, h⟩ := qbV h
    exact wkG [.go, rg1, bTr, rgG [oo, opI (.ix (qaC x2)), oo, oo, oo, oo], rgG [oo, oo, oo, oo, opI (.ia 0), oo], rgG [oo, oo, oo, opI (.call [[0,0,1,4], [0,0,0,0]] [(TV.agg (qaC x2)), (TV.agg (qbE (qa7.mk t19 m.e1 m.e2 m.e3)))] (tl 6 x5 qaA)), opI (.appN (x5.map qaA)), oo], rg2, .pre [.rl 5 0 x5.length, .keep [2,3,5,17,18,19] [2,3,33]]] hn (aC h1 <| aC (qk2 h3 : 0 ≤ t19) <| aC (qn0 @qbC h3 : (t17.map rid)[t19.toNat]? = some (qaC x2)) <| aC (of_decide_eq_true h4 : (wI6 (p.Level - (1 : Int))) = ((0 : Nat) : Int)) <| aC (qeR K ih h6 : qc7 prog 123 [(TV.agg (qaC x2)), (TV.agg (qbE (qa7.mk t19 m.e1 m.e2 m.e3)))] (tl 6 x5 qaA)) <| aC (rfl : x5.map qaA = x5.map qaA) <| aC ((qcZ _ _).symm ▸ of_decide_eq_true h8 : 0 < (x5.map qaA).length) <| aC ((qcZ _ _).symm ▸ h7 : (x5.map qaA).length * 64 ≤ 140737488355328) <| aC ((qcZ _ _).symm ▸ room (by decide) h7 : (x5.map qaA).length ≤ maxLen) <| aC r0 <| aC (by simp : (x5.map qaA).length = x5.length) <| aN) (ih _ _ h cx hn)
   ·exact wkG [.go, rg1, bTr, rgG [oo, opI (.ix (qaC x2)), oo, oo, oo, oo], rgG [oo, oo, oo, oo, opI (.ia 0), oo], rgG [oo, oo, oo, opI (.call [[0,0,1,4], [0,0,0,0]] [(TV.agg (qaC x2)), (TV.agg (qbE (qa7.mk t19 m.e1 m.e2 m.e3)))] (tl 6 x5 qaA)), .op .app0, oo], rg2, .pre [.keep [2,3,5,17,18,19] [2,3]]] hn (aC h1 <| aC (qk2 h3 : 0 ≤ t19) <| aC (qn0 @qbC h3 : (t17.map rid)[t19.toNat]? = some (qaC x2)) <| aC (of_decide_eq_true h4 : (wI6 (p.Level - (1 : Int))) = ((0 : Nat) : Int)) <| aC (qeR K ih h6 : qc7 prog 123 [(TV.agg (qaC x2)), (TV.agg (qbE (qa7.mk t19 m.e1 m.e2 m.e3)))] (tl 6 x5 qaA)) <| aC (by rw [show x5 = [] from List.eq_nil_of_length_eq_zero (by have := of_decide_eq_false h8; omega)]; simp : x5.map qaA = []) <| aN) (ih _ _ h cx hn)
  ·rcases qa0 h with ⟨h5, h⟩ | ⟨h5, h⟩
   ·obtain ⟨x6, h7, h⟩ := qaU h
    rcases qa0 h with ⟨h9, h⟩ | ⟨h9, h⟩
    ·obtain ⟨h8, h⟩ := qbV h
     exact wkG [.go, rg1, bTr, rgG [oo, opI (.ix (qaC x2)), oo, oo, oo, oo], rgG [oo, oo, oo, oo, opI (.ia 1), oo], rgG [oo, oo, oo, opI (.call [[0,0,1,4], [0,0,0,0]] [(TV.agg (qaC x2)), (TV.agg (qbE (qa7.mk m.e0 t19 m.e2 m.e3)))] (tl 6 x6 qaA)), opI (.appN (x6.map qaA)), oo], rg2, .pre [.rl 5 0 x6.length, .keep [2,3,5,17,18,19] [2,3,33]]] hn (aC h1 <| aC (qk2 h3 : 0 ≤ t19) <| aC (qn0 @qbC h3 : (t17.map rid)[t19.toNat]? = some (qaC x2)) <| aC (of_decide_eq_true h5 : (wI6 (p.Level - (1 : Int))) = ((1 : Nat) : Int)) <| aC (qeR K ih h7 : qc7 prog 123 [(TV.agg (qaC x2)), (TV.agg (qbE (qa7.mk m.e0 t19 m.e2 m.e3)))] (tl 6 x6 qaA)) <| aC (rfl : x6.map qaA = x6.map qaA) <| aC ((qcZ _ _).symm ▸ of_decide_eq_true h9 : 0 < (x6.map qaA).length) <| aC ((qcZ _ _).symm ▸ h8 : (x6.map qaA).length * 64 ≤ 140737488355328) <| aC ((qcZ _ _).symm ▸ room (by decide) h8 : (x6.map qaA).length ≤ maxLen) <| aC r0 <| aC (by simp : (x6.map qaA).length = x6.length) <| aN) (ih _ _ h cx hn)
    ·exact wkG [.go, rg1, bTr, rgG [oo, opI (.ix (qaC x2)), oo, oo, oo, oo], rgG [oo, oo, oo, oo, opI (.ia 1), oo], rgG [oo, oo, oo, opI (.call [[0,0,1,4], [0,0,0,0]] [(TV.agg (qaC x2)), (TV.agg (qbE (qa7.mk m.e0 t19 m.e2 m.e3)))] (tl 6 x6 qaA)), .op .app0, oo], rg2, .pre [.keep [2,3,5,17,18,19] [2,3]]] hn (aC h1 <| aC (qk2 h3 : 0 ≤ t19) <| aC (qn0 @qbC h3 : (t17.map rid)[t19.toNat]? = some (qaC x2)) <| aC (of_decide_eq_true h5 : (wI6 (p.Level - (1 : Int))) = ((1 : Nat) : Int)) <| aC (qeR K ih h7 : qc7 prog 123 [(TV.agg (qaC x2)), (TV.agg (qbE (qa7.mk m.e0 t19 m.e2 m.e3)))] (tl 6 x6 qaA)) <| aC (by rw [show x6 = [] from List.eq_nil_of_length_eq_zero (by have := of_decide_eq_false h9; omega)]; simp : x6.map qaA = []) <| aN) (ih _ _ h cx hn)
   ·rcases qa0 h with ⟨h6, h⟩ | ⟨h6, h⟩
    ·obtain ⟨x7, h8, h⟩ := qaU h
     rcases qa0 h with ⟨h10, h⟩ | ⟨h10, h⟩
     ·obtain ⟨h9, h⟩ := qbV h
      exact wkG [.go, rg1, bTr, rgG [oo, opI (.ix (qaC x2)), oo, oo, oo, oo], rgG [oo, oo, oo, oo, opI (.ia 2), oo], rgG [oo, oo, oo, opI (.call [[0,0,1,4], [0,0,0,0]] [(TV.agg (qaC x2)), (TV.agg (qbE (qa7.mk m.e0 m.e1 t19 m.e3)))] (tl 6 x7 qaA)), opI (.appN (x7.map qaA)), oo], rg2, .pre [.rl 5 0 x7.length, .keep [2,3,5,17,18,19] [2,3,33]]] hn (aC h1 <| aC (qk2 h3 : 0 ≤ t19) <| aC (qn0 @qbC h3 : (t17.map rid)[t19.toNat]? = some (qaC x2)) <| aC (of_decide_eq_true h6 : (wI6 (p.Level - (1 : Int))) = ((2 : Nat) : Int)) <| aC (qeR K ih h8 : qc7 prog 123 [(TV.agg (qaC x2)), (TV.agg (qbE (qa7.mk m.e0 m.e1 t19 m.e3)))] (tl 6 x7 qaA)) <| aC (rfl : x7.map qaA = x7.map qaA) <| aC ((qcZ _ _).symm ▸ of_decide_eq_true h10 : 0 < (x7.map qaA).length) <| aC ((qcZ _ _).symm ▸ h9 : (x7.map qaA).length * 64 ≤ 140737488355328) <| aC ((qcZ _ _).symm ▸ room (by decide) h9 : (x7.map qaA).length ≤ maxLen) <| aC r0 <| aC (by simp : (x7.map qaA).length = x7.length) <| aN) (ih _ _ h cx hn)
     ·exact wkG [.go, rg1, bTr, rgG [oo, opI (.ix (qaC x2)), oo, oo, oo, oo], rgG [oo, oo, oo, oo, opI (.ia 2), oo], rgG [oo, oo, oo, opI (.call [[0,0,1,4], [0,0,0,0]] [(TV.agg (qaC x2)), (TV.agg (qbE (qa7.mk m.e0 m.e1 t19 m.e3)))] (tl 6 x7 qaA)), .op .app0, oo], rg2, .pre [.keep [2,3,5,17,18,19] [2,3]]] hn (aC h1 <| aC (qk2 h3 : 0 ≤ t19) <| aC (qn0 @qbC h3 : (t17.map rid)[t19.toNat]? = some (qaC x2)) <| aC (of_decide_eq_true h6 : (wI6 (p.Level - (1 : Int))) = ((2 : Nat) : Int)) <| aC (qeR K ih h8 : qc7 prog 123 [(TV.agg (qaC x2)), (TV.agg (qbE (qa7.mk m.e0 m.e1 t19 m.e3)))] (tl 6 x7 qaA)) <| aC (by rw [show x7 = [] from List.eq_nil_of_length_eq_zero (by have := of_decide_eq_false h10; omega)]; simp : x7.map qaA = []) <| aN) (ih _ _ h cx hn)
    ·rcases qa0 h with ⟨h7, h⟩ | ⟨h7, h⟩
     ·obtain ⟨x8, h9, h⟩ := qaU h
      rcases qa0 h with ⟨h11, h⟩ | ⟨h11, h⟩
      ·obtain ⟨h10, h⟩ := qbV h
       exact wkG [.go, rg1, bTr, rgG [oo, opI (.ix (qaC x2)), oo, oo, oo, oo], rgG [oo, oo, oo, oo, opI (.ia 3), oo], rgG [oo, oo, oo, opI (.call [[0,0,1,4], [0,0,0,0]] [(TV.agg (qaC x2)), (TV.agg (qbE (qa7.mk m.e0 m.e1 m.e2 t19)))] (tl 6 x8 qaA)), opI (.appN (x8.map qaA)), oo], rg2, .pre [.rl 5 0 x8.length, .keep [2,3,5,17,18,19] [2,3,33]]] hn (aC h1 <| aC (qk2 h3 : 0 ≤ t19) <| aC (qn0 @qbC h3 : (t17.map rid)[t19.toNat]? = some (qaC x2)) <| aC (of_decide_eq_true h7 : (wI6 (p.Level - (1 : Int))) = ((3 : Nat) : Int)) <| aC (qeR K ih h9 : qc7 prog 123 [(TV.agg (qaC x2)), (TV.agg (qbE (qa7.mk m.e0 m.e1 m.e2 t19)))] (tl 6 x8 qaA)) <| aC (rfl : x8.map qaA = x8.map qaA) <| aC ((qcZ _ _).symm ▸ of_decide_eq_true h11 : 0 < (x8.map qaA).length) <| aC ((qcZ _ _).symm ▸ h10 : (x8.map qaA).length * 64 ≤ 140737488355328) <| aC ((qcZ _ _).symm ▸ room (by decide) h10 : (x8.map qaA).length ≤ maxLen) <| aC r0 <| aC (by simp : (x8.map qaA).length = x8.length) <| aN) (ih _ _ h cx hn)
      ·exact wkG [.go, rg1, bTr, rgG [oo, opI (.ix (qaC x2)), oo, oo, oo, oo], rgG [oo, oo, oo, oo, opI (.ia 3), oo], rgG [oo, oo, oo, opI (.call [[0,0,1,4], [0,0,0,0]] [(TV.agg (qaC x2)), (TV.agg (qbE (qa7.mk m.e0 m.e1 m.e2 t19)))] (tl 6 x8 qaA)), .op .app0, oo], rg2, .pre [.keep [2,3,5,17,18,19] [2,3]]] hn (aC h1 <| aC (qk2 h3 : 0 ≤ t19) <| aC (qn0 @qbC h3 : (t17.map rid)[t19.toNat]? = some (qaC x2)) <| aC (of_decide_eq_true h7 : (wI6 (p.Level - (1 : Int))) = ((3 : Nat) : Int)) <| aC (qeR K ih h9 : qc7 prog 123 [(TV.agg (qaC x2)), (TV.agg (qbE (qa7.mk m.e0 m.e1 m.e2 t19)))] (tl 6 x8 qaA)) <| aC (by rw [show x8 = [] from List.eq_nil_of_length_eq_zero (by have := of_decide_eq_false h11; omega)]; simp : x8.map qaA = []) <| aN) (ih _ _ h cx hn)
     ·cases h
 ·have h := oinj h; subst h
  exact wkR [.go, rg1, bFa, rg2] hn (aC h1 <| aN)
theorem zeH {K} (ih : qo3 K) {cx} (hn : cx.n = 36) {p m r33 t17 t18 t19} {r} (h : qa9 (K + 1) (.c2 p m r33 t17 t18 t19) = some r) : qr2 cx (.c2 p m r33 t17 t18 t19) r := by
 rw [qa9] at h
 rcases qa0 h with ⟨h1, h⟩ | ⟨h1, h⟩
 ·obtain ⟨x2, h3, h⟩ := qaU h
  rcases qa0 h with ⟨h4, h⟩ | ⟨h4, h⟩
  ·obtain ⟨x5, h6, h⟩ := qaU h
   obtain ⟨h7, h⟩ := qbV h
   exact wkG [.go, rg1, bTr, rgG [oo, opI (.ix (qaC x2)), oo, oo, oo, oo], rgG [oo, oo, oo, oo, opI (.ia 0), oo], .pre [.keep [2,3,5,7,17,18,19] [2,3,7,33]], rgG [oo, oo, oo, opI (.call [[0,0,1,4], [0,0,0,0]] [(TV.agg (qaC x2)), (TV.agg (qbE (qa7.mk t19 m.e1 m.e2 m.e3)))] (tl 6 x5 qaA)), .appR (x5.map qaA) ((r33 ++ x5).map qaA), oo], rg2, .pre [.rl 5 0 (r33 ++ x5).length, .keep [2,3,5,17,18,19] [2,3,33]]] hn (aC h1 <| aC (qk2 h3 : 0 ≤ t19) <| aC (qn0 @qbC h3 : (t17.map rid)[t19.toNat]? = some (qaC x2)) <| aC (of_decide_eq_true h4 : (wI6 (p.Level - (1 : Int))) = ((0 : Nat) : Int)) <| aC (qeR K ih h6 : qc7 prog 123 [(TV.agg (qaC x2)), (TV.agg (qbE (qa7.mk t19 m.e1 m.e2 m.e3)))] (tl 6 x5 qaA)) <| aC (by simp : r33.length = (r33.map qaA).length) <| aC (rfl : x5.map qaA = x5.map qaA) <| aC (qk5 _ _ _ : r33.map qaA ++ x5.map qaA = (r33 ++ x5).map qaA) <| aC ((qcZ _ _).symm ▸ h7 : ((r33 ++ x5).map qaA).length * 64 ≤ 140737488355328) <| aC ((qcZ _ _).symm ▸ room (by decide) h7 : ((r33 ++ x5).map qaA).length ≤ maxLen) <| aC r0 <| aC (by simp : ((r33 ++ x5).map qaA).length = (r33 ++ x5).length) <| aN) (ih _ _ h cx hn)
  ·rcases qa0 h with ⟨h5, h⟩ | ⟨h5, h⟩
   ·obtain ⟨x6, h7, h⟩ := qaU h
    obtain ⟨h8, h⟩ := qbV h
    exact wkG [.go, rg1, bTr, rgG [oo, opI (.ix (qaC x2)), oo, oo, oo, oo], rgG [oo, oo, oo, oo, opI (.ia 1), oo], .pre [.keep [2,3,5,7,17,18,19] [2,3,7,33]], rgG [oo, oo, oo, opI (.call [[0,0,1,4], [0,0,0,0]] [(TV.agg (qaC x2)), (TV.agg (qbE (qa7.mk m.e0 t19 m.e2 m.e3)))] (tl 6 x6 qaA)), .appR (x6.map qaA) ((r33 ++ x6).map qaA), oo], rg2, .pre [.rl 5 0 (r33 ++ x6).length, .keep [2,3,5,17,18,19] [2,3,33]]] hn (aC h1 <| aC (qk2 h3 : 0 ≤ t19) <| aC (qn0 @qbC h3 : (t17.map rid)[t19.toNat]? = some (qaC x2)) <| aC (of_decide_eq_true h5 : (wI6 (p.Level - (1 : Int))) = ((1 : Nat) : Int)) <| aC (qeR K ih h7 : qc7 prog 123 [(TV.agg (qaC x2)), (TV.agg (qbE (qa7.mk m.e0 t19 m.e2 m.e3)))] (tl 6 x6 qaA)) <| aC (by simp : r33.length = (r33.map qaA).length) <| aC (rfl : x6.map qaA = x6.map qaA) <| aC (qk5 _ _ _ : r33.map qaA ++ x6.map qaA = (r33 ++ x6).map qaA) <| aC ((qcZ _ _).symm ▸ h8 : ((r33 ++ x6).map qaA).length * 64 ≤ 140737488355328) <| aC ((qcZ _ _).symm ▸ room (by decide) h8 : ((r33 ++ x6).map qaA).length ≤ maxLen) <| aC r0 <| aC (by simp : ((r33 ++ x6).map qaA).length = (r33 ++ x6).length) <| aN) (ih _ _ h cx hn)
   ·rcases qa0 h with ⟨h6, h⟩ | ⟨h6, h⟩
    ·obtain ⟨x7, h8, h⟩ := qaU h
     obtain ⟨h9, h⟩ := qbV h
     exact wkG [.go, rg1, bTr, rgG [oo, opI (.ix (qaC x2)), oo, oo, oo, oo], rgG [oo, oo, oo, oo, opI (.ia 2), oo], .pre [.keep [2,3,5,7,17,18,19] [2,3,7,33]], rgG [oo, oo, oo, opI (.call [[0,0,1,4], [0,0,0,0]] [(TV.agg (qaC x2)), (TV.agg (qbE (qa7.mk m.e0 m.e1 t19 m.e3)))] (tl 6 x7 qaA)), .appR (x7.map qaA) ((r33 ++ x7).map qaA), oo], rg2, .pre [.rl 5 0 (r33 ++ x7).length, .keep [2,3,5,17,18,19] [2,3,33]]] hn (aC h1 <| aC (qk2 h3 : 0 ≤ t19) <| aC (qn0 @qbC h3 : (t17.map rid)[t19.toNat]? = some (qaC x2)) <| aC (of_decide_eq_true h6 : (wI6 (p.Level - (1 : Int))) = ((2 : Nat) : Int)) <| aC (qeR K ih h8 : qc7 prog 123 [(TV.agg (qaC x2)), (TV.agg (qbE (qa7.mk m.e0 m.e1 t19 m.e3)))] (tl 6 x7 qaA)) <| aC (by simp : r33.length = (r33.map qaA).length) <| aC (rfl : x7.map qaA = x7.map qaA) <| aC (qk5 _ _ _ : r33.map qaA ++ x7.map qaA = (r33 ++ x7).map qaA) <| aC ((qcZ _ _).symm ▸ h9 : ((r33 ++ x7).map qaA).length * 64 ≤ 140737488355328) <| aC ((qcZ _ _).symm ▸ room (by decide) h9 : ((r33 ++ x7).map qaA).length ≤ maxLen) <| aC r0 <| aC (by simp : ((r33 ++ x7).map qaA).length = (r33 ++ x7).length) <| aN) (ih _ _ h cx hn)
    ·rcases qa0 h with ⟨h7, h⟩ | ⟨h7, h⟩
     ·obtain ⟨x8, h9, h⟩ := qaU h
      obtain ⟨h10, h⟩ := qbV h
      exact wkG [.go, rg1, bTr, rgG [oo, opI (.ix (qaC x2)), oo, oo, oo, oo], rgG [oo, oo, oo, oo, opI (.ia 3), oo], .pre [.keep [2,3,5,7,17,18,19] [2,3,7,33]], rgG [oo, oo, oo, opI (.call [[0,0,1,4], [0,0,0,0]] [(TV.agg (qaC x2)), (TV.agg (qbE (qa7.mk m.e0 m.e1 m.e2 t19)))] (tl 6 x8 qaA)), .appR (x8.map qaA) ((r33 ++ x8).map qaA), oo], rg2, .pre [.rl 5 0 (r33 ++ x8).length, .keep [2,3,5,17,18,19] [2,3,33]]] hn (aC h1 <| aC (qk2 h3 : 0 ≤ t19) <| aC (qn0 @qbC h3 : (t17.map rid)[t19.toNat]? = some (qaC x2)) <| aC (of_decide_eq_true h7 : (wI6 (p.Level - (1 : Int))) = ((3 : Nat) : Int)) <| aC (qeR K ih h9 : qc7 prog 123 [(TV.agg (qaC x2)), (TV.agg (qbE (qa7.mk m.e0 m.e1 m.e2 t19)))] (tl 6 x8 qaA)) <| aC (by simp : r33.length = (r33.map qaA).length) <| aC (rfl : x8.map qaA = x8.map qaA) <| aC (qk5 _ _ _ : r33.map qaA ++ x8.map qaA = (r33 ++ x8).map qaA) <| aC ((qcZ _ _).symm ▸ h10 : ((r33 ++ x8).map qaA).length * 64 ≤ 140737488355328) <| aC ((qcZ _ _).symm ▸ room (by decide) h10 : ((r33 ++ x8).map qaA).length ≤ maxLen) <| aC r0 <| aC (by simp : ((r33 ++ x8).map qaA).length = (r33 ++ x8).length) <| aN) (ih _ _ h cx hn)
     ·cases h
 ·have h := oinj h; subst h
  exact wkR [.go, rg1, bFa, rgG [oo, oo, .snap 4 (max 0 (0 + r33.length)) (r33.map qaA)]] hn (aC h1 <| aC (qeH _ _ _ (by simp) : ((r33.map qaA).drop 0).take r33.length = r33.map qaA) <| aC (rfl : (max 0 (0 + r33.length)) = (max 0 (0 + r33.length))) <| aN)
theorem qpM : ∀ K : Nat, qo3 K
 | 0, c, r, h => by rw [qa9] at h; cases h
 | K + 1, .c0 .., r, h => fun cx hn => zeJ (qpM K) hn h
 | K + 1, .c1 .., r, h => fun cx hn => zeI (qpM K) hn h
 | K + 1, .c2 .., r, h => fun cx hn => zeH (qpM K) hn h
theorem q6Y {K : Nat} {p : qaD} {m : qa7} {r : (List qaM)} (h : q8H K p m = some r) : qc7 prog 123 [(TV.agg (qaC p)), (TV.agg (qbE m))] (tl 6 r qaA) :=
 qbL [[6]] (by kernel_rfl) (by simp) fun cx hn => qpM K (.c0 p m) r h cx hn
open Go.Proofs.Tryz (prog)
inductive qt1 where
 | c0 (p : qaD)
def qpQ : Nat → qt1 → Option (List qaM)
 | 0, _ => none
 | K + 1, .c0 p =>
  (qqL K p).bind fun x1 =>
  (q8H K x1 (qa7.mk (0 : Int) (0 : Int) (0 : Int) (0 : Int))).bind fun x3 =>
  (qpK K x3).bind fun x5 =>
  some x5
def q4C (K : Nat) (p : qaD) : Option (List qaM) := qpQ K (.c0 p)
noncomputable def zhC : Code := qcS prog 63
noncomputable def zkC : qt1 → List Fr
 | .c0 .. => [.code zhC]
def zmO : qt1 → St
 | .c0 p => St.init [(TV.agg (qaC p))]
def zdL (cx : Cx) (c : qt1) (r : (List qaM)) : Prop := Wk prog cx (qd8 prog 63 [[6]] (tl 6 r qaA)) (zkC c) .normal (zmO c)
abbrev zdM (K : Nat) : Prop := ∀ c r, qpQ K c = some r → ∀ cx : Cx, cx.n = 8 → zdL cx c r
theorem zmQ {K} (_ : zdM K) {cx} (hn : cx.n = 8) {p} {r} (h : qpQ (K + 1) (.c0 p) = some r) : zdL cx (.c0 p) r := by
 rw [qpQ] at h
 obtain ⟨x1, h2, h⟩ := qaU h
 obtain ⟨x3, h4, h⟩ := qaU h
 obtain ⟨x5, h6, h⟩ := qaU h
 have h := oinj h; subst h
 exact wkR [rg2, rgG [oo, opI (.call [[0,0,1,4]] [(TV.agg (qaC p))] (TV.agg (qaC x1))), oo, opI (.call [[0,0,1,4], [0,0,0,0]] [(TV.agg (qaC x1)), (TV.agg (qbE (qa7.mk (0 : Int) (0 : Int) (0 : Int) (0 : Int))))] (tl 6 x3 qaA)), opI (.call [[6]] [(tl 6 x3 qaA)] (tl 6 x5 qaA)), oo]] hn (aC (qqF h2) <| aC (q6Y h4) <| aC (qv1 h6) <| aN)
theorem q5M : ∀ K : Nat, zdM K
 | 0, c, r, h => by rw [qpQ] at h; cases h
 | K + 1, .c0 .., r, h => fun cx hn => zmQ (q5M K) hn h
theorem zeU {K : Nat} {p : qaD} {r : (List qaM)} (h : q4C K p = some r) : qc7 prog 63 [(TV.agg (qaC p))] (tl 6 r qaA) :=
 qbL [[6]] (by kernel_rfl) (by simp) fun cx hn => q5M K (.c0 p) r h cx hn
open Go.Proofs.Tryz (prog)
inductive qlT where
 | c0 (a : (List qaJ)) (b4 : qaJ) (out : qaJ) (b14_0 : (List qaM)) (m : qa7) (c : qaE)
 | c1 (a : (List qaJ)) (b4 : qaJ) (out : qaJ) (v : qaJ) (b14_0 : (List qaM)) (t19 : qa7) (t20 : Int)
 | c2 (a : (List qaJ)) (b4 : qaJ) (out : qaJ) (v : qaJ) (b14_0 : (List qaM)) (t19 : qa7) (t20 : Int)
def qbG : Nat → qlT → Option qaJ
 | 0, _ => none
 | K + 1, .c0 a b4 out b14_0 m c =>
  (qsH K c).bind fun x1 =>
  qbG K (.c1 a b4 out x1 b14_0 m (0 : Int))
 | K + 1, .c1 a b4 out v b14_0 t19 t20 =>
  bif (decide (t20 < (4 : Int))) then
   bif (decide (t20 = 0)) then
    bif (decide (t19.e0 = (0 : Int))) then
     qbG K (.c2 a b4 out v b14_0 t19 t20)
    else
     (qjX K (0 : Int)).bind fun x4 =>
     bif (decide (t20 < (a.length : Int))) then
      (gi a t20).bind fun x7 =>
      (qh1 K x7 t19.e0).bind fun x9 =>
      (qc8 K v x9).bind fun x11 =>
      qbG K (.c2 a b4 out x11 b14_0 t19 t20)
     else
      (qh1 K x4 t19.e0).bind fun x7 =>
      (qc8 K v x7).bind fun x9 =>
      qbG K (.c2 a b4 out x9 b14_0 t19 t20)
   else
    bif (decide (t20 = 1)) then
     bif (decide (t19.e1 = (0 : Int))) then
      qbG K (.c2 a b4 out v b14_0 t19 t20)
     else
      (qjX K (0 : Int)).bind fun x5 =>
      bif (decide (t20 < (a.length : Int))) then
       (gi a t20).bind fun x8 =>
       (qh1 K x8 t19.e1).bind fun x10 =>
       (qc8 K v x10).bind fun x12 =>
       qbG K (.c2 a b4 out x12 b14_0 t19 t20)
      else
       (qh1 K x5 t19.e1).bind fun x8 =>
       (qc8 K v x8).bind fun x10 =>
       qbG K (.c2 a b4 out x10 b14_0 t19 t20)
    else
     bif (decide (t20 = 2)) then
      bif (decide (t19.e2 = (0 : Int))) then
       qbG K (.c2 a b4 out v b14_0 t19 t20)
      else
       (qjX K (0 : Int)).bind fun x6 =>
       bif (decide (t20 < (a.length : Int))) then
        (gi a t20).bind fun x9 =>
        (qh1 K x9 t19.e2).bind fun x11 =>
        (qc8 K v x11).bind fun x13 =>
        qbG K (.c2 a b4 out x13 b14_0 t19 t20)
       else
        (qh1 K x6 t19.e2).bind fun x9 =>
        (qc8 K v x9).bind fun x11 =>
        qbG K (.c2 a b4 out x11 b14_0 t19 t20)
     else
      bif (decide (t20 = 3)) then
       bif (decide (t19.e3 = (0 : Int))) then
        qbG K (.c2 a b4 out v b14_0 t19 t20)
       else
        (qjX K (0 : Int)).bind fun x7 =>
        bif (decide (t20 < (a.length : Int))) then
         (gi a t20).bind fun x10 =>
         (qh1 K x10 t19.e3).bind fun x12 =>
         (qc8 K v x12).bind fun x14 =>
         qbG K (.c2 a b4 out x14 b14_0 t19 t20)
        else
         (qh1 K x7 t19.e3).bind fun x10 =>
         (qc8 K v x10).bind fun x12 =>
         qbG K (.c2 a b4 out x12 b14_0 t19 t20)
      else
       none
  else
   (qfC K out v).bind fun x2 =>
   some x2
 | K + 1, .c2 a b4 out v b14_0 t19 t20 =>
  qbG K (.c1 a b4 out v b14_0 t19 (wI6 (t20 + (1 : Int))))
def qqJ (K : Nat) (a : (List qaJ)) (b4 : qaJ) (out : qaJ) (b14_0 : (List qaM)) (m : qa7) (c : qaE) : Option qaJ := qbG K (.c0 a b4 out b14_0 m c)
noncomputable def qfW : Code := qcS prog 62
noncomputable def q8B : qlT → List Fr
 | .c0 .. => [.code (atC qfW [1,1,0,1,0,1])]
 | .c1 .. => [.code (.loop (atC qfW [1,1,0,1,0,1,0,1,0,1,0,0])), .blk 2, .code (atC qfW [1,1,0,1,0,1,0,1,1]), .blk 1]
 | .c2 .. => [.code (atC qfW [1,1,0,1,0,1,0,1,0,1,0,0,1,1,1]), .lp (atC qfW [1,1,0,1,0,1,0,1,0,1,0,0]), .blk 2, .code (atC qfW [1,1,0,1,0,1,0,1,1]), .blk 1]
def qmG (l : Nat) (t5 t6 t7 : T) : List V := qjZ 45 [(3, .c (C.ptr 3 0)), (4, .c (C.ptr 4 0)), (5, .c (C.ptr 5 0)), (14, .c (C.fn 175 [Cap.ptr 14 0]))] ++ itEx l t5 t6 t7
def q8C : qlT → qaJ → List (Nat × Blk)
 | .c0 a b4 _ b14_0 _ _, r_ => [(3, .var [C.t (T.sl 3 (a.map qaB))]), (4, .var ((qaB b4).map C.t)), (5, .var ((qaB r_).map C.t)), (14, .var [C.t (T.sl 6 (b14_0.map qaA))])]
 | .c1 a b4 _ _ b14_0 _ _, r_ => [(3, .var [C.t (T.sl 3 (a.map qaB))]), (4, .var ((qaB b4).map C.t)), (5, .var ((qaB r_).map C.t)), (14, .var [C.t (T.sl 6 (b14_0.map qaA))])]
 | .c2 a b4 _ _ b14_0 _ _, r_ => [(3, .var [C.t (T.sl 3 (a.map qaB))]), (4, .var ((qaB b4).map C.t)), (5, .var ((qaB r_).map C.t)), (14, .var [C.t (T.sl 6 (b14_0.map qaA))])]
def zaZ (l : Nat) (t5 t6 t7 : T) : qlT → St
 | .c0 a b4 out b14_0 m c => ⟨[(3, .c (C.ptr 3 0)), (5, .c (C.ptr 5 0)), (6, .c (C.ptr 6 0)), (7, .c (C.ptr 7 0))], [(3, .var [C.t (T.sl 3 (a.map qaB))]), (4, .var ((qaB b4).map C.t)), (5, .var ((qaB out).map C.t)), (6, .var ((qbE m).map C.t)), (7, .var ((qaK c).map C.t)), (14, .var [C.t (T.sl 6 (b14_0.map qaA))])], qmG l t5 t6 t7⟩
 | .c1 a b4 out v b14_0 t19 t20 => ⟨[(3, .c (C.ptr 3 0)), (5, .c (C.ptr 5 0)), (8, .c (C.ptr 8 0)), (19, .agg ((qbE t19).map C.t)), (20, vi .i64 t20)], [(3, .var [C.t (T.sl 3 (a.map qaB))]), (4, .var ((qaB b4).map C.t)), (5, .var ((qaB out).map C.t)), (8, .var ((qaB v).map C.t)), (14, .var [C.t (T.sl 6 (b14_0.map qaA))])], qmG l t5 t6 t7⟩
 | .c2 a b4 out v b14_0 t19 t20 => ⟨[(3, .c (C.ptr 3 0)), (5, .c (C.ptr 5 0)), (8, .c (C.ptr 8 0)), (19, .agg ((qbE t19).map C.t)), (20, vi .i64 t20)], [(3, .var [C.t (T.sl 3 (a.map qaB))]), (4, .var ((qaB b4).map C.t)), (5, .var ((qaB out).map C.t)), (8, .var ((qaB v).map C.t)), (14, .var [C.t (T.sl 6 (b14_0.map qaA))])], qmG l t5 t6 t7⟩
def qqW (cx : Cx) (l : Nat) (t5 t6 t7 : T) (c : qlT) (r : qaJ) : Prop := Wk prog cx (zwE (q8C c r) (qmG l t5 t6 t7)) (q8B c) .normal (zaZ l t5 t6 t7 c)
abbrev qqX (K : Nat) : Prop := ∀ c r, qbG K c = some r → ∀ cx : Cx, cx.n = 45 → ∀ l t5 t6 t7, qqW cx l t5 t6 t7 c r
theorem za6 {K} (ih : qqX K) {cx} (hn : cx.n = 45) (l : Nat) (t5 t6 t7 : T) {a b4 out b14_0 m c} {r} (h : qbG (K + 1) (.c0 a b4 out b14_0 m c) = some r) : qqW cx l t5 t6 t7 (.c0 a b4 out b14_0 m c) r := by
 rw [qbG] at h
 obtain ⟨x1, h2, h⟩ := qaU h
 exact wkG [rgG [oo, opI (.call [[0,1]] [(TV.agg (qaK c))] (TV.agg (qaB x1))), oo, oo], rg2, .pre [.keep [3,5,8,19,20] [3,4,5,8,14]]] hn (aC (qv9 h2) <| aN) (ih _ _ h cx hn l t5 t6 t7)
theorem za5 {K} (ih : qqX K) {cx} (hn : cx.n = 45) (l : Nat) (t5 t6 t7 : T) {a b4 out v b14_0 t19 t20} {r} (h : qbG (K + 1) (.c1 a b4 out v b14_0 t19 t20) = some r) : qqW cx l t5 t6 t7 (.c1 a b4 out v b14_0 t19 t20) r := by
 rw [qbG] at h
 rcases qa0 h with ⟨h1, h⟩ | ⟨h1, h⟩
 ·rcases qa0 h with ⟨h2, h⟩ | ⟨h2, h⟩
  ·rcases qa0 h with ⟨h3, h⟩ | ⟨h3, h⟩
   ·exact wkG [.go, rg1, bTr, rgG [oo, opI (.iv 0), oo, oo], rg2, bTr, .pre [.keep [3,5,8,19,20] [3,4,5,8,14]]] hn (aC h1 <| aC (of_decide_eq_true h2 : t20 = ((0 : Nat) : Int)) <| aC h3 <| aN) (ih _ _ h cx hn l t5 t6 t7)
   ·obtain ⟨x4, h5, h⟩ := qaU h
    rcases qa0 h with ⟨h6, h⟩ | ⟨h6, h⟩
    ·obtain ⟨x7, h8, h⟩ := qaU h
     obtain ⟨x9, h10, h⟩ := qaU h
     obtain ⟨x11, h12, h⟩ := qaU h
     exact wkG [.go, rg1, bTr, rgG [oo, opI (.iv 0), oo, oo], rg2, bFa, rgG [opI (.call [[0]] [(TV.c (T.int .i64 (0 : Int)))] (TV.agg (qaB x4))), oo, oo], rgG [oo, oo, opI (.ln (a.length : Int)), oo], bTr, rgG [oo, oo, opI (.ix (qaB x7)), oo, oo], .draw [.p, .p, .p, (.call [[0,1,1], [0]] [(TV.agg (qaB x7)), (ti .i64 t19.e0)] (TV.agg (qaB x9)))] [opI (.call [[0,1,1], [0,1,1]] [(TV.agg (qaB v)), (TV.agg (qaB x9))] (TV.agg (qaB x11))), .op .p], .pre [.keep [3,5,8,19,20] [3,4,5,8,14]]] hn (aC h1 <| aC (of_decide_eq_true h2 : t20 = ((0 : Nat) : Int)) <| aC h3 <| aC (qeX h5) <| aC (qdI a qaB) <| aC h6 <| aC (qb5 h8) <| aC (qfP qaB h8) <| aC (qgE h10) <| aC (qbY h12) <| aN) (ih _ _ h cx hn l t5 t6 t7)
    ·obtain ⟨x7, h8, h⟩ := qaU h
     obtain ⟨x9, h10, h⟩ := qaU h
     exact wkG [.go, rg1, bTr, rgG [oo, opI (.iv 0), oo, oo], rg2, bFa, rgG [opI (.call [[0]] [(TV.c (T.int .i64 (0 : Int)))] (TV.agg (qaB x4))), oo, oo], rgG [oo, oo, opI (.ln (a.length : Int)), oo], bFa, .draw [.p, .p, .p, (.call [[0,1,1], [0]] [(TV.agg (qaB x4)), (ti .i64 t19.e0)] (TV.agg (qaB x7)))] [opI (.call [[0,1,1], [0,1,1]] [(TV.agg (qaB v)), (TV.agg (qaB x7))] (TV.agg (qaB x9))), .op .p], .pre [.keep [3,5,8,19,20] [3,4,5,8,14]]] hn (aC h1 <| aC (of_decide_eq_true h2 : t20 = ((0 : Nat) : Int)) <| aC h3 <| aC (qeX h5) <| aC (qdI a qaB) <| aC h6 <| aC (qgE h8) <| aC (qbY h10) <| aN) (ih _ _ h cx hn l t5 t6 t7)
  ·rcases qa0 h with ⟨h3, h⟩ | ⟨h3, h⟩
   ·rcases qa0 h with ⟨h4, h⟩ | ⟨h4, h⟩
    ·exact wkG [.go, rg1, bTr, rgG [oo, opI (.iv 1), oo, oo], rg2, bTr, .pre [.keep [3,5,8,19,20] [3,4,5,8,14]]] hn (aC h1 <| aC (of_decide_eq_true h3 : t20 = ((1 : Nat) : Int)) <| aC h4 <| aN) (ih _ _ h cx hn l t5 t6 t7)
    ·obtain ⟨x5, h6, h⟩ := qaU h
     rcases qa0 h with ⟨h7, h⟩ | ⟨h7, h⟩
     ·obtain ⟨x8, h9, h⟩ := qaU h
      obtain ⟨x10, h11, h⟩ := qaU h
      obtain ⟨x12, h13, h⟩ := qaU h
      exact wkG [.go, rg1, bTr, rgG [oo, opI (.iv 1), oo, oo], rg2, bFa, rgG [opI (.call [[0]] [(TV.c (T.int .i64 (0 : Int)))] (TV.agg (qaB x5))), oo, oo], rgG [oo, oo, opI (.ln (a.length : Int)), oo], bTr, rgG [oo, oo, opI (.ix (qaB x8)), oo, oo], .draw [.p, .p, .p, (.call [[0,1,1], [0]] [(TV.agg (qaB x8)), (ti .i64 t19.e1)] (TV.agg (qaB x10)))] [opI (.call [[0,1,1], [0,1,1]] [(TV.agg (qaB v)), (TV.agg (qaB x10))] (TV.agg (qaB x12))), .op .p], .pre [.keep [3,5,8,19,20] [3,4,5,8,14]]] hn (aC h1 <| aC (of_decide_eq_true h3 : t20 = ((1 : Nat) : Int)) <| aC h4 <| aC (qeX h6) <| aC (qdI a qaB) <| aC h7 <| aC (qb5 h9) <| aC (qfP qaB h9) <| aC (qgE h11) <| aC (qbY h13) <| aN) (ih _ _ h cx hn l t5 t6 t7)
     ·obtain ⟨x8, h9, h⟩ := qaU h
      obtain ⟨x10, h11, h⟩ := qaU h
      exact wkG [.go, rg1, bTr, rgG [oo, opI (.iv 1), oo, oo], rg2, bFa, rgG [opI (.call [[0]] [(TV.c (T.int .i64 (0 : Int)))] (TV.agg (qaB x5))), oo, oo], rgG [oo, oo, opI (.ln (a.length : Int)), oo], bFa, .draw [.p, .p, .p, (.call [[0,1,1], [0]] [(TV.agg (qaB x5)), (ti .i64 t19.e1)] (TV.agg (qaB x8)))] [opI (.call [[0,1,1], [0,1,1]] [(TV.agg (qaB v)), (TV.agg (qaB x8))] (TV.agg (qaB x10))), .op .p], .pre [.keep [3,5,8,19,20] [3,4,5,8,14]]] hn (aC h1 <| aC (of_decide_eq_true h3 : t20 = ((1 : Nat) : Int)) <| aC h4 <| aC (qeX h6) <| aC (qdI a qaB) <| aC h7 <| aC (qgE h9) <| aC (qbY h11) <| aN) (ih _ _ h cx hn l t5 t6 t7)
   ·rcases qa0 h with ⟨h4, h⟩ | ⟨h4, h⟩
    ·rcases qa0 h with ⟨h5, h⟩ | ⟨h5, h⟩
     ·exact wkG [.go, rg1, bTr, rgG [oo, opI (.iv 2), oo, oo], rg2, bTr, .pre [.keep [3,5,8,19,20] [3,4,5,8,14]]] hn (aC h1 <| aC (of_decide_eq_true h4 : t20 = ((2 : Nat) : Int)) <| aC h5 <| aN) (ih _ _ h cx hn l t5 t6 t7)
     ·obtain ⟨x6, h7, h⟩ := qaU h
      rcases qa0 h with ⟨h8, h⟩ | ⟨h8, h⟩
      ·obtain ⟨x9, h10, h⟩ := qaU h
       obtain ⟨x11, h12, h⟩ := qaU h
       obtain ⟨x13, h14, h⟩ := qaU h
       exact wkG [.go, rg1, bTr, rgG [oo, opI (.iv 2), oo, oo], rg2, bFa, rgG [opI (.call [[0]] [(TV.c (T.int .i64 (0 : Int)))] (TV.agg (qaB x6))), oo, oo], rgG [oo, oo, opI (.ln (a.length : Int)), oo], bTr, rgG [oo, oo, opI (.ix (qaB x9)), oo, oo], .draw [.p, .p, .p, (.call [[0,1,1], [0]] [(TV.agg (qaB x9)), (ti .i64 t19.e2)] (TV.agg (qaB x11)))] [opI (.call [[0,1,1], [0,1,1]] [(TV.agg (qaB v)), (TV.agg (qaB x11))] (TV.agg (qaB x13))), .op .p], .pre [.keep [3,5,8,19,20] [3,4,5,8,14]]] hn (aC h1 <| aC (of_decide_eq_true h4 : t20 = ((2 : Nat) : Int)) <| aC h5 <| aC (qeX h7) <| aC (qdI a qaB) <| aC h8 <| aC (qb5 h10) <| aC (qfP qaB h10) <| aC (qgE h12) <| aC (qbY h14) <| aN) (ih _ _ h cx hn l t5 t6 t7)
      ·obtain ⟨x9, h10, h⟩ := qaU h
       obtain ⟨x11, h12, h⟩ := qaU h
       exact wkG [.go, rg1, bTr, rgG [oo, opI (.iv 2), oo, oo], rg2, bFa, rgG [opI (.call [[0]] [(TV.c (T.int .i64 (0 : Int)))] (TV.agg (qaB x6))), oo, oo], rgG [oo, oo, opI (.ln (a.length : Int)), oo], bFa, .draw [.p, .p, .p, (.call [[0,1,1], [0]] [(TV.agg (qaB x6)), (ti .i64 t19.e2)] (TV.agg (qaB x9)))] [opI (.call [[0,1,1], [0,1,1]] [(TV.agg (qaB v)), (TV.agg (qaB x9))] (TV.agg (qaB x11))), .op .p], .pre [.keep [3,5,8,19,20] [3,4,5,8,14]]] hn (aC h1 <| aC (of_decide_eq_true h4 : t20 = ((2 : Nat) : Int)) <| aC h5 <| aC (qeX h7) <| aC (qdI a qaB) <| aC h8 <| aC (qgE h10) <| aC (qbY h12) <| aN) (ih _ _ h cx hn l t5 t6 t7)
    ·rcases qa0 h with ⟨h5, h⟩ | ⟨h5, h⟩
     ·rcases qa0 h with ⟨h6, h⟩ | ⟨h6, h⟩
      ·exact wkG [.go, rg1, bTr, rgG [oo, opI (.iv 3), oo, oo], rg2, bTr, .pre [.keep [3,5,8,19,20] [3,4,5,8,14]]] hn (aC h1 <| aC (of_decide_eq_true h5 : t20 = ((3 : Nat) : Int)) <| aC h6 <| aN) (ih _ _ h cx hn l t5 t6 t7)
      ·obtain ⟨x7, h8, h⟩ := qaU h
       rcases qa0 h with ⟨h9, h⟩ | ⟨h9, h⟩
       ·obtain ⟨x10, h11, h⟩ := qaU h
        obtain ⟨x12, h13, h⟩ := qaU h
        obtain ⟨x14, h15, h⟩ := qaU h
        exact wkG [.go, rg1, bTr, rgG [oo, opI (.iv 3), oo, oo], rg2, bFa, rgG [opI (.call [[0]] [(TV.c (T.int .i64 (0 : Int)))] (TV.agg (qaB x7))), oo, oo], rgG [oo, oo, opI (.ln (a.length : Int)), oo], bTr, rgG [oo, oo, opI (.ix (qaB x10)), oo, oo], .draw [.p, .p, .p, (.call [[0,1,1], [0]] [(TV.agg (qaB x10)), (ti .i64 t19.e3)] (TV.agg (qaB x12)))] [opI (.call [[0,1,1], [0,1,1]] [(TV.agg (qaB v)), (TV.agg (qaB x12))] (TV.agg (qaB x14))), .op .p], .pre [.keep [3,5,8,19,20] [3,4,5,8,14]]] hn (aC h1 <| aC (of_decide_eq_true h5 : t20 = ((3 : Nat) : Int)) <| aC h6 <| aC (qeX h8) <| aC (qdI a qaB) <| aC h9 <| aC (qb5 h11) <| aC (qfP qaB h11) <| aC (qgE h13) <| aC (qbY h15) <| aN) (ih _ _ h cx hn l t5 t6 t7)
       ·obtain ⟨x10, h11, h⟩ := qaU h
        obtain ⟨x12, h13, h⟩ := qaU h
        exact wkG [.go, rg1, bTr, rgG [oo, opI (.iv 3), oo, oo], rg2, bFa, rgG [opI (.call [[0]] [(TV.c (T.int .i64 (0 : Int)))] (TV.agg (qaB x7))), oo, oo], rgG [oo, oo, opI (.ln (a.length : Int)), oo], bFa, .draw [.p, .p, .p, (.call [[0,1,1], [0]] [(TV.agg (qaB x7)), (ti .i64 t19.e3)] (TV.agg (qaB x10)))] [opI (.call [[0,1,1], [0,1,1]] [(TV.agg (qaB v)), (TV.agg (qaB x10))] (TV.agg (qaB x12))), .op .p], .pre [.keep [3,5,8,19,20] [3,4,5,8,14]]] hn (aC h1 <| aC (of_decide_eq_true h5 : t20 = ((3 : Nat) : Int)) <| aC h6 <| aC (qeX h8) <| aC (qdI a qaB) <| aC h9 <| aC (qgE h11) <| aC (qbY h13) <| aN) (ih _ _ h cx hn l t5 t6 t7)
     ·cases h
 ·obtain ⟨x2, h3, h⟩ := qaU h
  have h := oinj h; subst h
  exact wk_rd (fuel := 76) [3,4,5,14] [.go, rg1, bFa, rgG [oo, oo, opI (.call [[0,1,1], [0,1,1]] [(TV.agg (qaB out)), (TV.agg (qaB v))] (TV.agg (qaB x2))), oo]] _ hn (by kernel_rfl) (aC h1 <| aC (qeC h3) <| aN)
theorem za4 {K} (ih : qqX K) {cx} (hn : cx.n = 45) (l : Nat) (t5 t6 t7 : T) {a b4 out v b14_0 t19 t20} {r} (h : qbG (K + 1) (.c2 a b4 out v b14_0 t19 t20) = some r) : qqW cx l t5 t6 t7 (.c2 a b4 out v b14_0 t19 t20) r := by
 rw [qbG] at h
 exact q2E (fuel := 44) [rg2, .pre [.keep [3,5,8,19,20] [3,4,5,8,14]]] _ hn (by kernel_rfl) aN (ih _ _ h cx hn l t5 t6 t7)
theorem qoF : ∀ K : Nat, qqX K
 | 0, c, r, h => by rw [qbG] at h; cases h
 | K + 1, .c0 .., r, h => fun cx hn l t5 t6 t7 => za6 (qoF K) hn l t5 t6 t7 h
 | K + 1, .c1 .., r, h => fun cx hn l t5 t6 t7 => za5 (qoF K) hn l t5 t6 t7 h
 | K + 1, .c2 .., r, h => fun cx hn l t5 t6 t7 => za4 (qoF K) hn l t5 t6 t7 h
theorem q2I {K : Nat} {a : (List qaJ)} {b4 : qaJ} {out : qaJ} {b14_0 : (List qaM)} {m : qa7} {c : qaE} {r : qaJ} (h : qqJ K a b4 out b14_0 m c = some r) {l : Nat} {t5 t6 t7 : T} : zd0 prog 45 (atC qfW [1,1,0,1,0,0]) (atC qfW [1,1,0,1,0,1]) (q53 [15,16] [.agg ((qbE m).map C.t), .agg ((qaK c).map C.t)] [(3, .c (C.ptr 3 0)), (4, .c (C.ptr 4 0)), (5, .c (C.ptr 5 0)), (14, .c (C.fn 175 [Cap.ptr 14 0]))]) (qmG l t5 t6 t7) [(3, .var [C.t (T.sl 3 (a.map qaB))]), (4, .var ((qaB b4).map C.t)), (5, .var ((qaB out).map C.t)), (14, .var [C.t (T.sl 6 (b14_0.map qaA))])] [(3, .var [C.t (T.sl 3 (a.map qaB))]), (4, .var ((qaB b4).map C.t)), (5, .var ((qaB r).map C.t)), (14, .var [C.t (T.sl 6 (b14_0.map qaA))])] :=
 zoC fun cx hn => wk_as (fuel := 50) [3,5,6,7] [3,4,5,6,7,14] [rg2, rg2] _ hn (by kernel_rfl) aN fun cx hn => qoF K (.c0 a b4 out b14_0 m c) r h cx hn l t5 t6 t7
open Go.Proofs.Tryz (prog)
inductive qr0 where
 | c0 (p : (List qaM)) (a : (List qaJ))
 | c1 (a : (List qaJ)) (b4 : qaJ) (out : qaJ) (b14_0 : (List qaM))
def qhF : Nat → qr0 → Option qaJ
 | 0, _ => none
 | K + 1, .c0 p a =>
  (qjX K (0 : Int)).bind fun x1 =>
  (qo0 K p).bind fun x3 =>
  qhF K (.c1 a (qaJ.mk (qaE.mk false []) []) x1 x3)
 | K + 1, .c1 a b4 out b14_0 =>
  (itT K (fun z m c => qqJ K a b4 z b14_0 m c) out b14_0).bind fun x1 =>
  gd (b14_0.length ≤ 4611686018427387904) <|
  some x1
def q6U (K : Nat) (p : (List qaM)) (a : (List qaJ)) : Option qaJ := qhF K (.c0 p a)
noncomputable def qlF : Code := qcS prog 62
noncomputable def zgZ : qr0 → List Fr
 | .c0 .. => [.code qlF]
 | .c1 .. => [.code (atC qlF [1,1,0,1,0]), .blk 0, .code (atC qlF [1,1,1])]
def zjV : qr0 → St
 | .c0 p a => St.init [(tl 6 p qaA), (tl 3 a qaB)]
 | .c1 a b4 out b14_0 => ⟨[(3, .c (C.ptr 3 0)), (4, .c (C.ptr 4 0)), (5, .c (C.ptr 5 0)), (14, .c (C.fn 175 [Cap.ptr 14 0]))], [(3, .var [C.t (T.sl 3 (a.map qaB))]), (4, .var ((qaB b4).map C.t)), (5, .var ((qaB out).map C.t)), (14, .var [C.t (T.sl 6 (b14_0.map qaA))])], []⟩
def qzT (cx : Cx) (c : qr0) (r : qaJ) : Prop := Wk prog cx (qd8 prog 62 [[0,1,1]] (TV.agg (qaB r))) (zgZ c) .normal (zjV c)
abbrev qzU (K : Nat) : Prop := ∀ c r, qhF K c = some r → ∀ cx : Cx, cx.n = 45 → cx.rd = none → qzT cx c r
theorem zjX {K} (ih : qzU K) {cx} (hn : cx.n = 45) (hrd : cx.rd = none) {p a} {r} (h : qhF (K + 1) (.c0 p a) = some r) : qzT cx (.c0 p a) r := by
 rw [qhF] at h
 obtain ⟨x1, h2, h⟩ := qaU h
 obtain ⟨x3, h4, h⟩ := qaU h
 exact wkG [rg2, rgG [opI (.call [[0]] [(TV.c (T.int .i64 (0 : Int)))] (TV.agg (qaB x1))), oo, oo], rgG [oo, .callC [[6]] 175 [(T.sl 6 (x3.map qaA))]], .pre [.tellB 4 [0,1,1], .keep [3,4,5,14] [3,4,5,14]]] hn (aC (qeX h2) <| aC (qtH h4) <| aN) (ih _ _ h cx hn hrd)
theorem zjW {K} (_ : qzU K) {cx} (hn : cx.n = 45) (hrd : cx.rd = none) {a b4 out b14_0} {r} (h : qhF (K + 1) (.c1 a b4 out b14_0) = some r) : qzT cx (.c1 a b4 out b14_0) r := by
 rw [qhF] at h
 obtain ⟨x1, h2, h⟩ := qaU h
 obtain ⟨h3, h⟩ := qbV h
 refine znU (tm := [(3, .c (C.ptr 3 0)), (4, .c (C.ptr 4 0)), (5, .c (C.ptr 5 0)), (14, .c (C.fn 175 [Cap.ptr 14 0]))]) (hp := (fun z : qaJ => ([(3, .var [C.t (T.sl 3 (a.map qaB))]), (4, .var ((qaB b4).map C.t)), (5, .var ((qaB z).map C.t)), (14, .var [C.t (T.sl 6 (b14_0.map qaA))])] : List (Nat × Blk))) out) (hp' := (fun z : qaJ => ([(3, .var [C.t (T.sl 3 (a.map qaB))]), (4, .var ((qaB b4).map C.t)), (5, .var ((qaB z).map C.t)), (14, .var [C.t (T.sl 6 (b14_0.map qaA))])] : List (Nat × Blk))) x1) (f := 175) (caps := [.ptr 14 0])
  (show (atC qlF [1,1,0,1,0]) = .rangeFunc (.tmp 14) #[15,16] (atC qlF [1,1,0,1,0,0]) (atC qlF [1,1,0,1,0,1]) by kernel_rfl) rfl hn hrd (by kernel_rfl) (by kernel_rfl)
  (ztJ (j := 14) (HP := fun z : qaJ => ([(3, .var [C.t (T.sl 3 (a.map qaB))]), (4, .var ((qaB b4).map C.t)), (5, .var ((qaB z).map C.t)), (14, .var [C.t (T.sl 6 (b14_0.map qaA))])] : List (Nat × Blk))) rfl (by simp) (fun _ => rfl) (fun _ => by kernel_rfl) (fun _ => rfl) (fun _ _ _ _ _ _ _ _ h => q2I h) h3 h2) ?_
 have h := oinj h; subst h
 exact zlU (fuel := 56) [rg2] _ hn (by kernel_rfl) aN
theorem qv3 : ∀ K : Nat, qzU K
 | 0, c, r, h => by rw [qhF] at h; cases h
 | K + 1, .c0 .., r, h => fun cx hn hrd => zjX (qv3 K) hn hrd h
 | K + 1, .c1 .., r, h => fun cx hn hrd => zjW (qv3 K) hn hrd h
theorem za7 {K : Nat} {p : (List qaM)} {a : (List qaJ)} {r : qaJ} (h : q6U K p a = some r) : qc7 prog 62 [(tl 6 p qaA), (tl 3 a qaB)] (TV.agg (qaB r)) :=
 zoV [[0,1,1]] (by kernel_rfl) (by simp) fun cx hn hrd => qv3 K (.c0 p a) r h cx hn hrd
open Go.Proofs.Tryz (prog)
inductive qq1 where
 | c0 (p : qaD) (a : (List qaJ))
def qmM : Nat → qq1 → Option qaJ
 | 0, _ => none
 | K + 1, .c0 p a =>
  (q4C K p).bind fun x1 =>
  (q6U K x1 a).bind fun x3 =>
  some x3
def quH (K : Nat) (p : qaD) (a : (List qaJ)) : Option qaJ := qmM K (.c0 p a)
noncomputable def zbO : Code := qcS prog 21
noncomputable def ze0 : qq1 → List Fr
 | .c0 .. => [.code zbO]
def zhD : qq1 → St
 | .c0 p a => St.init [(TV.agg (qaC p)), (tl 3 a qaB)]
def q5N (cx : Cx) (c : qq1) (r : qaJ) : Prop := Wk prog cx (qd8 prog 21 [[0,1,1]] (TV.agg (qaB r))) (ze0 c) .normal (zhD c)
abbrev q5O (K : Nat) : Prop := ∀ c r, qmM K c = some r → ∀ cx : Cx, cx.n = 9 → q5N cx c r
theorem zhF {K} (_ : q5O K) {cx} (hn : cx.n = 9) {p a} {r} (h : qmM (K + 1) (.c0 p a) = some r) : q5N cx (.c0 p a) r := by
 rw [qmM] at h
 obtain ⟨x1, h2, h⟩ := qaU h
 obtain ⟨x3, h4, h⟩ := qaU h
 have h := oinj h; subst h
 exact wkR [rg2, rgG [oo, opI (.call [[0,0,1,4]] [(TV.agg (qaC p))] (tl 6 x1 qaA)), oo, opI (.call [[6], [3]] [(tl 6 x1 qaA), (tl 3 a qaB)] (TV.agg (qaB x3))), oo]] hn (aC (zeU h2) <| aC (za7 h4) <| aN)
theorem q0T : ∀ K : Nat, q5O K
 | 0, c, r, h => by rw [qmM] at h; cases h
 | K + 1, .c0 .., r, h => fun cx hn => zhF (q0T K) hn h
theorem qxI {K : Nat} {p : qaD} {a : (List qaJ)} {r : qaJ} (h : quH K p a = some r) : qc7 prog 21 [(TV.agg (qaC p)), (tl 3 a qaB)] (TV.agg (qaB r)) :=
 qbL [[0,1,1]] (by kernel_rfl) (by simp) fun cx hn => q0T K (.c0 p a) r h cx hn
def setE (m : Mn) (lv i : Nat) : Mn := match lv with
  | 1 => ⟨i, m.e1, m.e2, m.e3⟩
  | 2 => ⟨m.e0, i, m.e2, m.e3⟩
  | 3 => ⟨m.e0, m.e1, i, m.e3⟩
  | _ => ⟨m.e0, m.e1, m.e2, i⟩
def LowZ (m : Mn) (L : Nat) : Prop := (1 ≤ L → m.e0 = 0) ∧ (2 ≤ L → m.e1 = 0) ∧ (3 ≤ L → m.e2 = 0) ∧ (4 ≤ L → m.e3 = 0)
mutual
def qlS (m : Mn) : P → List Tm
  | .k c => [⟨c, m⟩]
  | .p lv cs => qn9 lv m 0 cs
def qn9 (lv : Nat) (m : Mn) (i : Nat) : List P → List Tm
  | [] => []
  | c :: cs => qlS (setE m lv i) c ++ qn9 lv m (i + 1) cs
end
theorem zqV {lv : Nat} (h1 : 1 ≤ lv) (h4 : lv ≤ 4) (m : Mn) (i j : Nat) : setE (setE m lv i) lv j = setE m lv j := by
  rcases (by omega : lv = 1 ∨ lv = 2 ∨ lv = 3 ∨ lv = 4) with rfl | rfl | rfl | rfl <;> rfl
theorem zu0 {lv : Nat} (h1 : 1 ≤ lv) (h4 : lv ≤ 4) {m : Mn} (h : LowZ m lv) (i : Nat) : LowZ (setE m lv i) (lv - 1) := by
  obtain ⟨a, b, c, d⟩ := h
  rcases (by omega : lv = 1 ∨ lv = 2 ∨ lv = 3 ∨ lv = 4) with rfl | rfl | rfl | rfl <;> (unfold setE LowZ; simp only; refine ⟨?_, ?_, ?_, ?_⟩ <;> (intro h; first | omega | exact a (by omega) | exact b (by omega) | exact c (by omega) | exact d (by omega)))
theorem zvG {m : Mn} {L L' : Nat} (h : L' ≤ L) (hz : LowZ m L) : LowZ m L' := ⟨fun k => hz.1 (by omega), fun k => hz.2.1 (by omega), fun k => hz.2.2.1 (by omega), fun k => hz.2.2.2 (by omega)⟩
theorem zyD (ρ : Nat → Rat) {lv : Nat} (h1 : 1 ≤ lv) (h4 : lv ≤ 4) {m : Mn} (h : LowZ m lv) (i : Nat) : (setE m lv i).ev ρ = m.ev ρ * ρ lv ^ i := by
  obtain ⟨a, b, c, d⟩ := h
  unfold Mn.ev
  rcases (by omega : lv = 1 ∨ lv = 2 ∨ lv = 3 ∨ lv = 4) with rfl | rfl | rfl | rfl
  · rw [a (by omega)]; simp only [setE]; grind
  · rw [b (by omega)]; simp only [setE]; grind
  · rw [c (by omega)]; simp only [setE]; grind
  · rw [d (by omega)]; simp only [setE]; grind
mutual
theorem znZ (ρ : Nat → Rat) : ∀ (L : Nat) (p : P) (m : Mn), P.C L p → L ≤ 4 → LowZ m p.lev → sumT ρ (qlS m p) = m.ev ρ * p.ev ρ
  | L, .k c, m, hC, hL, hz => by
    rw [qlS, sumT, sumT, Tm.ev, P.ev]; grind
  | L, .p lv cs, m, hC, hL, hz => by
    rw [P.C] at hC
    rw [qlS, P.ev, zlZ ρ lv cs m 0 hC.2.2.2.1 hC.1 (by omega) hz]
    grind
theorem zlZ (ρ : Nat → Rat) : ∀ (lv : Nat) (cs : List P) (m : Mn) (i : Nat), P.Cs (lv - 1) cs → 1 ≤ lv → lv ≤ 4 → LowZ m lv → sumT ρ (qn9 lv m i cs) = m.ev ρ * ρ lv ^ i * P.evs ρ (ρ lv) cs
  | lv, [], m, i, hC, h1, h4, hz => by rw [qn9, sumT, P.evs]; grind
  | lv, c :: cs, m, i, hC, h1, h4, hz => by
    rw [P.Cs] at hC
    have hl := zuK hC.1
    rw [qn9, zgT, znZ ρ (lv - 1) c (setE m lv i) hC.1 (by omega) (zvG hl (zu0 h1 h4 hz i)), zlZ ρ lv cs m (i + 1) hC.2 h1 h4 hz, zyD ρ h1 h4 hz, P.evs, Rat.pow_succ]
    grind
end
mutual
theorem zaV (n w : Nat) : ∀ (L : Nat) (p : P) (m : Mn), P.C L p → P.W n w p → 1 ≤ w → (qlS m p).length ≤ w ^ L
  | L, .k c, m, hC, hW, h1 => by rw [qlS]; exact Nat.pow_pos (by omega)
  | L, .p lv cs, m, hC, hW, h1 => by
    rw [P.C] at hC
    rw [P.W] at hW
    rw [qlS]
    have := zgR n w lv cs m 0 hC.2.2.2.1 hW.2 h1
    have e : w ^ L = w ^ (L - lv) * (w * w ^ (lv - 1)) := by
      rw [← Nat.pow_succ', ← Nat.pow_add]; congr 1; omega
    have h2 : cs.length * w ^ (lv - 1) ≤ w * w ^ (lv - 1) := Nat.mul_le_mul_right _ hW.1
    have h3 : w * w ^ (lv - 1) ≤ w ^ (L - lv) * (w * w ^ (lv - 1)) := Nat.le_mul_of_pos_left _ (Nat.pow_pos (by omega))
    omega
theorem zgR (n w : Nat) : ∀ (lv : Nat) (cs : List P) (m : Mn) (i : Nat), P.Cs (lv - 1) cs → P.Ws n w cs → 1 ≤ w → (qn9 lv m i cs).length ≤ cs.length * w ^ (lv - 1)
  | lv, [], m, i, hC, hW, h1 => by rw [qn9]; simp
  | lv, c :: cs, m, i, hC, hW, h1 => by
    rw [P.Cs] at hC
    rw [P.Ws] at hW
    have k1 := zaV n w (lv - 1) c (setE m lv i) hC.1 hW.1 h1
    have k2 := zgR n w lv cs m (i + 1) hC.2 hW.2 h1
    rw [qn9, List.length_append, List.length_cons, Nat.succ_mul]
    omega
end
mutual
theorem zl0 (n w : Nat) : ∀ (L : Nat) (p : P) (m : Mn), P.C L p → P.W n w p → L ≤ 4 → (∀ c, zaU w ⟨c, m⟩) → ∀ t ∈ qlS m p, (t.c.natAbs : Int) < 4294967296 ^ n ∧ zaU w t
  | L, .k c, m, hC, hW, hL, hm, t, ht => by
    rw [qlS] at ht
    rw [P.W] at hW
    rw [List.mem_singleton.1 ht]
    exact ⟨hW, hm c⟩
  | L, .p lv cs, m, hC, hW, hL, hm, t, ht => by
    rw [P.C] at hC
    rw [P.W] at hW
    rw [qlS] at ht
    exact zgQ n w lv cs m 0 hC.2.2.2.1 hW.2 hC.1 (by omega) (by omega) hm t ht
theorem zgQ (n w : Nat) : ∀ (lv : Nat) (cs : List P) (m : Mn) (i : Nat), P.Cs (lv - 1) cs → P.Ws n w cs → 1 ≤ lv → lv ≤ 4 → i + cs.length ≤ w → (∀ c, zaU w ⟨c, m⟩) → ∀ t ∈ qn9 lv m i cs, (t.c.natAbs : Int) < 4294967296 ^ n ∧ zaU w t
  | lv, [], m, i, hC, hW, h1, h4, hi, hm, t, ht => by rw [qn9] at ht; cases ht
  | lv, c :: cs, m, i, hC, hW, h1, h4, hi, hm, t, ht => by
    rw [P.Cs] at hC
    rw [P.Ws] at hW
    simp only [List.length_cons] at hi
    rw [qn9] at ht
    rcases List.mem_append.1 ht with ht | ht
    · refine zl0 n w (lv - 1) c (setE m lv i) hC.1 hW.1 (by omega) (fun c => ?_) t ht
      obtain ⟨a0, a1, a2, a3⟩ := hm c
      rcases (by omega : lv = 1 ∨ lv = 2 ∨ lv = 3 ∨ lv = 4) with rfl | rfl | rfl | rfl <;> exact ⟨by first | assumption | (show i < w; omega), by first | assumption | (show i < w; omega), by first | assumption | (show i < w; omega), by first | assumption | (show i < w; omega)⟩
    · exact zgQ n w lv cs m (i + 1) hC.2 hW.2 h1 h4 (by omega) hm t ht
end
theorem zpJ {B : Nat} : ∀ {l : List Tm}, (∀ t ∈ l, t.c.natAbs ≤ B) → sumA l ≤ l.length * B
  | [], _ => Nat.zero_le _
  | t :: l, h => by
    have h1 := h t (by simp)
    have h2 := zpJ (l := l) fun t ht => h t (by simp [ht])
    rw [sumA, List.length_cons, Nat.succ_mul]; omega
theorem znY : ∀ (L : Nat) (p : P) (m : Mn), P.C L p → 0 < (qlS m p).length
  | L, .k c, m, _ => by rw [qlS]; simp
  | L, .p lv [], m, hC => by rw [P.C] at hC; simp at hC
  | L, .p lv (c :: cs), m, hC => by
    rw [P.C, P.Cs] at hC
    have := znY (lv - 1) c (setE m lv 0) hC.2.2.2.1.1
    rw [qlS, qn9, List.length_append]
    omega
theorem zqN {pp : qaD} {lv : Nat} (hlv : pp.Level = (lv : Int)) (h1 : 1 ≤ lv) (h4 : lv ≤ 4) {cs : List P} (hl : cs.length ≤ 1000000) {m0 : Mn}
    (hs : ∀ (i : Nat) x, cs[i]? = some x → Ev (fun K => qa9 K (.c0 x.enc (setE m0 lv i).enc)) ((qlS (setE m0 lv i) x).map Tm.enc)) :
    ∀ (rest : List P) (i : Nat) (m : Mn) (acc : List Tm), (∀ j, setE m lv j = setE m0 lv j) → cs.drop i = rest → (acc ++ qn9 lv m0 i rest).length ≤ 1000000000 →
      Ev (fun K => qa9 K (.c2 pp m.enc (acc.map Tm.enc) (P.raws cs) (cs.length : Int) (i : Int))) ((acc ++ qn9 lv m0 i rest).map Tm.enc)
  | [], i, m, acc, hm, hd, hlen => by
    have : cs.length ≤ i := by
      have := congrArg List.length hd
      rw [List.length_drop, List.length_nil] at this
      omega
    refine qaW ?_
    simp only [qa9]
    rw [qn9, List.append_nil]
    exact ev_f (by simp; omega) (qa6 _)
  | c :: rest, i, m, acc, hm, hd, hlen => by
    have hlt : i < cs.length := by
      have := congrArg List.length hd
      rw [List.length_drop, List.length_cons] at this
      omega
    have hx : cs[i]? = some c := by
      have := congrArg (·[0]?) hd
      simpa using this
    have hd' : cs.drop (i + 1) = rest := by
      have := congrArg List.tail hd
      simpa using this
    have hw : wI6 ((i : Int) + 1) = ((i + 1 : Nat) : Int) := by rw [qdF (by omega)]; omega
    have hc := hs i c hx
    rw [qn9, ← List.append_assoc] at hlen ⊢
    have hle : (acc ++ qlS (setE m0 lv i) c).length ≤ 1000000000 := by rw [List.length_append] at hlen; omega
    have hgd : ((acc.map Tm.enc ++ (qlS (setE m0 lv i) c).map Tm.enc).length : Nat) * 64 ≤ 140737488355328 := by rw [← List.map_append, List.length_map]; omega
    have ih := zqN hlv h1 h4 hl hs rest (i + 1) (setE m lv i) (acc ++ qlS (setE m0 lv i) c) (fun j => by rw [zqV h1 h4, hm]) hd' hlen
    rw [List.map_append] at ih
    have hmi := hm i
    rw [← hmi] at hc hgd ih ⊢
    refine qaW ?_
    rcases (by omega : lv = 1 ∨ lv = 2 ∨ lv = 3 ∨ lv = 4) with rfl | rfl | rfl | rfl
    · have wl : wI6 (((1 : Nat) : Int) - 1) = 0 := by decide
      simp only [qa9, hlv, wl, hw]
      exact ev_t (by simp; omega) (qb8 (qj7 hx) (ev_t rfl (qaR hc (qgA hgd ih))))
    · have wl : wI6 (((2 : Nat) : Int) - 1) = 1 := by decide
      simp only [qa9, hlv, wl, hw]
      exact ev_t (by simp; omega) (qb8 (qj7 hx) (ev_f rfl (ev_t rfl (qaR hc (qgA hgd ih)))))
    · have wl : wI6 (((3 : Nat) : Int) - 1) = 2 := by decide
      simp only [qa9, hlv, wl, hw]
      exact ev_t (by simp; omega) (qb8 (qj7 hx) (ev_f rfl (ev_f rfl (ev_t rfl (qaR hc (qgA hgd ih))))))
    · have wl : wI6 (((4 : Nat) : Int) - 1) = 3 := by decide
      simp only [qa9, hlv, wl, hw]
      exact ev_t (by simp; omega) (qb8 (qj7 hx) (ev_f rfl (ev_f rfl (ev_f rfl (ev_t rfl (qaR hc (qgA hgd ih)))))))
theorem q6Z {n w : Nat} (hw1 : 1 ≤ w) (hw : w ≤ 100) : ∀ (L : Nat) (p : P) (m : Mn), P.C L p → L ≤ 4 → P.W n w p → Ev (fun K => qa9 K (.c0 p.enc m.enc)) ((qlS m p).map Tm.enc) := by
  intro L
  induction L using Nat.strongRecOn with
  | _ L ih =>
    intro p m hC hL hW
    cases p with
    | k c =>
      refine qaW ?_
      simp only [qa9]
      exact ev_t rfl (qe4 (qa6 _) (by rw [qlS]; rfl))
    | p lv cs =>
      have hlen := zaV n w L _ m hC hW hw1
      have hpw : w ^ L ≤ 100 ^ 4 := Nat.le_trans (Nat.pow_le_pow_left hw L) (Nat.pow_le_pow_right (by omega) hL)
      rw [P.C] at hC
      rw [P.W] at hW
      cases cs with
      | nil => simp at hC
      | cons c cs =>
      have hs : ∀ (i : Nat) x, (c :: cs)[i]? = some x → Ev (fun K => qa9 K (.c0 x.enc (setE m lv i).enc)) ((qlS (setE m lv i) x).map Tm.enc) := fun i x hx =>
        ih (lv - 1) (by omega) x _ (qtF hC.2.2.2.1 x (List.mem_of_getElem? hx)) (by omega) (qxA hW.2 x (List.mem_of_getElem? hx))
      have hne := znY (lv - 1) c (setE m lv 0) (qtF hC.2.2.2.1 c (by simp))
      have hc := hs 0 c rfl
      have hw0 : wI6 ((0 : Int) + 1) = ((1 : Nat) : Int) := by decide
      have hx : gid qcC (P.raws (c :: cs)) (0 : Int) = some c.enc := qj7 (i := 0) rfl
      rw [qlS, qn9, Nat.zero_add] at hlen
      have hle : (qlS (setE m lv 0) c).length ≤ 100 ^ 4 := by rw [List.length_append] at hlen; omega
      have hgd : ((qlS (setE m lv 0) c).map Tm.enc).length * 64 ≤ 140737488355328 := by rw [List.length_map]; omega
      have hpos : decide (0 < ((qlS (setE m lv 0) c).map Tm.enc).length) = true := by rw [List.length_map]; exact decide_eq_true hne
      have htail := zqN (pp := (P.p lv (c :: cs)).enc) (lv := lv) rfl hC.1 (by omega) (cs := c :: cs) (by omega) hs cs 1 (setE m lv 0) (qlS (setE m lv 0) c) (fun j => zqV hC.1 (by omega) m 0 j) rfl (by omega)
      refine qaW ?_
      simp only [qa9]
      refine ev_f (decide_eq_false (by show ¬ ((lv : Int) = 0); omega)) ?_
      refine qaW ?_
      have hL2 : (P.p lv (c :: cs)).enc.Level = (lv : Int) := rfl
      have hco : (P.p lv (c :: cs)).enc.Coefs = P.raws (c :: cs) := rfl
      rw [qlS, qn9]
      rcases (by omega : lv = 1 ∨ lv = 2 ∨ lv = 3 ∨ lv = 4) with rfl | rfl | rfl | rfl
      · have wl : wI6 (((1 : Nat) : Int) - 1) = 0 := by decide
        simp only [qa9, hL2, hco, qe3, wl, hw0]
        exact ev_t (by simp) (qb8 hx (ev_t rfl (qaR hc (ev_t hpos (qgA hgd htail)))))
      · have wl : wI6 (((2 : Nat) : Int) - 1) = 1 := by decide
        simp only [qa9, hL2, hco, qe3, wl, hw0]
        exact ev_t (by simp) (qb8 hx (ev_f rfl (ev_t rfl (qaR hc (ev_t hpos (qgA hgd htail))))))
      · have wl : wI6 (((3 : Nat) : Int) - 1) = 2 := by decide
        simp only [qa9, hL2, hco, qe3, wl, hw0]
        exact ev_t (by simp) (qb8 hx (ev_f rfl (ev_f rfl (ev_t rfl (qaR hc (ev_t hpos (qgA hgd htail)))))))
      · have wl : wI6 (((4 : Nat) : Int) - 1) = 3 := by decide
        simp only [qa9, hL2, hco, qe3, wl, hw0]
        exact ev_t (by simp) (qb8 hx (ev_f rfl (ev_f rfl (ev_f rfl (ev_t rfl (qaR hc (ev_t hpos (qgA hgd htail))))))))
theorem zmP {n w : Nat} {p : P} (hC : P.C 4 p) (hW : P.W n w p) (hn : n ≤ 100000) (hw1 : 1 ≤ w) (hw : w ≤ 100) :
    ∃ out, Ev (fun K => q4C K p.enc) (out.map Tm.enc) ∧ (∀ ρ, sumT ρ out = p.ev ρ) ∧ out.length ≤ w ^ 4 ∧ ∀ t ∈ out, t.c ≠ 0 ∧ (t.c.natAbs : Int) < 4294967296 ^ (n + 1) ∧ zaU w t := by
  have hlen := zaV n w 4 p ⟨0, 0, 0, 0⟩ hC hW hw1
  have hpw : w ^ 4 ≤ 100 ^ 4 := Nat.pow_le_pow_left hw 4
  have hmem := zl0 n w 4 p ⟨0, 0, 0, 0⟩ hC hW (Nat.le_refl _) fun c => ⟨hw1, hw1, hw1, hw1⟩
  have hev := fun ρ => znZ ρ 4 p ⟨0, 0, 0, 0⟩ hC (Nat.le_refl _) ⟨fun _ => rfl, fun _ => rfl, fun _ => rfl, fun _ => rfl⟩
  have hs : ((sumA (qlS ⟨0, 0, 0, 0⟩ p) : Nat) : Int) < 4294967296 ^ (n + 1) := by
    have hb := qfV n
    have h1 := zpJ (l := qlS ⟨0, 0, 0, 0⟩ p) (B := ((4294967296 : Int) ^ n).toNat) fun t ht => by have := (hmem t ht).1; omega
    rw [Int.pow_succ]
    have h2 : (qlS ⟨0, 0, 0, 0⟩ p).length * ((4294967296 : Int) ^ n).toNat ≤ 100000000 * ((4294967296 : Int) ^ n).toNat := Nat.mul_le_mul_right _ (by omega)
    omega
  obtain ⟨out, h1, h2⟩ := quX (n := n + 1) (by omega) (by omega) hs
  refine ⟨out, ?_, fun ρ => ?_, Nat.le_trans h2.len hlen, zh2 h2 hs fun t ht => (hmem t ht).2⟩
  · refine qaW ?_
    simp only [q4C, qpQ]
    refine qaR (qyO hC hW (by omega) (by omega)) (qaR (q6Z (n := n) hw1 hw 4 p ⟨0, 0, 0, 0⟩ hC (Nat.le_refl _) hW) (qaR h1 (qa6 _)))
  · rw [h2.ev ρ, hev ρ, Mn.ev]
    simp only [Rat.pow_zero]
    grind
theorem zaG {k q : Nat} {v x : Rat} {e : Nat} (hv : Sz q v) (hx : Sz k x) (hk : k ≤ 10000) (hq : q ≤ 1000000) (he : e ≤ 4) :
    Sz (q + (k * 4 + 1)) (v * x ^ e) ∧ (e ≠ 0 → Ev (fun K => qh1 K (mkQ x) (e : Int)) (mkQ (x ^ e))) ∧ Ev (fun K => qc8 K (mkQ v) (mkQ (x ^ e))) (mkQ (v * x ^ e)) := by
  have hp := qmF (j := k * 4 + 1) (by have := Nat.mul_le_mul_left k he; omega) (zwQ hx e)
  exact ⟨qxE hv hp, fun h0 => zgV hx hk (by omega), qeS hv hp (by omega)⟩
theorem zyY {k n s : Nat} {x1 x2 x3 x4 : Rat} (hk : k ≤ 100) (h1 : Sz k x1) (h2 : Sz k x2) (h3 : Sz k x3) (h4 : Sz k x4) (hn0 : 1 ≤ n) (hn : n ≤ 100000) (hs : s ≤ 100000000) (b4 : qaJ) (b14 : List qaM) {out : Rat} (ho : Sz s out) {t : Tm} (ht : (t.c.natAbs : Int) < 4294967296 ^ n) (he : zaU 5 t)
    {ρ : Nat → Rat} (r1 : ρ 1 = x1) (r2 : ρ 2 = x2) (r3 : ρ 3 = x3) (r4 : ρ 4 = x4) :
    Sz (s + (n + 16 * k + 4) + 1) (out + t.ev ρ) ∧ Ev (fun K => qqJ K [mkQ x1, mkQ x2, mkQ x3, mkQ x4] b4 (mkQ out) b14 t.m.enc (mkI t.c)) (mkQ (out + t.ev ρ)) := by
  obtain ⟨c, ⟨e1, e2, e3, e4⟩⟩ := t
  obtain ⟨k1, k2, k3, k4⟩ := he
  simp only at ht k1 k2 k3 k4
  have z0 : Sz n (c : Rat) := by
    obtain ⟨n', rfl⟩ : ∃ n', n = n' + 1 := ⟨n - 1, by omega⟩
    exact zl1 ht
  have sa := qrL ht (by omega)
  obtain ⟨s1, p1, f1⟩ := zaG z0 h1 (by omega) (by omega) (e := e1) (by omega)
  obtain ⟨s2, p2, f2⟩ := zaG s1 h2 (by omega) (by omega) (e := e2) (by omega)
  obtain ⟨s3, p3, f3⟩ := zaG s2 h3 (by omega) (by omega) (e := e3) (by omega)
  obtain ⟨s4, p4, f4⟩ := zaG s3 h4 (by omega) (by omega) (e := e4) (by omega)
  have e : Tm.ev ρ ⟨c, ⟨e1, e2, e3, e4⟩⟩ = (c : Rat) * x1 ^ e1 * x2 ^ e2 * x3 ^ e3 * x4 ^ e4 := by
    rw [Tm.ev, Mn.ev, r1, r2, r3, r4]; grind
  rw [e]
  have hadd := qmT ho s4 (by omega)
  refine ⟨qmF (by omega) (q75 ho s4), ?_⟩
  have w0 : wI6 ((0 : Int) + 1) = 1 := by decide
  have w1 : wI6 ((1 : Int) + 1) = 2 := by decide
  have w2 : wI6 ((2 : Int) + 1) = 3 := by decide
  have w3 : wI6 ((3 : Int) + 1) = 4 := by decide
  have zero := qqN (z := 0) (by omega)
  obtain ⟨R, hR⟩ : ∃ R, R = out + (c : Rat) * x1 ^ e1 * x2 ^ e2 * x3 ^ e3 * x4 ^ e4 := ⟨_, rfl⟩
  rw [← hR] at hadd ⊢
  clear hR
  refine qaW ?_
  simp only [qqJ, qbG]
  refine qaR (q02 sa) ?_
  have g4 : Ev (fun K => qbG K (.c2 [mkQ x1, mkQ x2, mkQ x3, mkQ x4] b4 (mkQ out) (mkQ ((c : Rat) * x1 ^ e1 * x2 ^ e2 * x3 ^ e3 * x4 ^ e4)) b14 (Mn.mk e1 e2 e3 e4).enc 3)) (mkQ R) := by
    refine qaW ?_
    simp only [qbG, w3]
    refine qaW ?_
    simp only [qbG]
    exact ev_f rfl (qaR hadd (qa6 _))
  have g3 : Ev (fun K => qbG K (.c2 [mkQ x1, mkQ x2, mkQ x3, mkQ x4] b4 (mkQ out) (mkQ ((c : Rat) * x1 ^ e1 * x2 ^ e2 * x3 ^ e3)) b14 (Mn.mk e1 e2 e3 e4).enc 2)) (mkQ R) := by
    refine qaW ?_
    simp only [qbG, w2]
    refine qaW ?_
    simp only [qbG]
    refine ev_t rfl (ev_f rfl (ev_f rfl (ev_f rfl (ev_t rfl ?_))))
    by_cases h : e4 = 0
    · subst h
      rw [Rat.pow_zero, Rat.mul_one] at g4
      exact ev_t rfl g4
    · exact ev_f (decide_eq_false (by show ¬ ((e4 : Int) = 0); omega)) (qaR zero (ev_t rfl (qb8 (x := mkQ x4) rfl (qaR (p4 h) (qaR f4 g4)))))
  have g2 : Ev (fun K => qbG K (.c2 [mkQ x1, mkQ x2, mkQ x3, mkQ x4] b4 (mkQ out) (mkQ ((c : Rat) * x1 ^ e1 * x2 ^ e2)) b14 (Mn.mk e1 e2 e3 e4).enc 1)) (mkQ R) := by
    refine qaW ?_
    simp only [qbG, w1]
    refine qaW ?_
    simp only [qbG]
    refine ev_t rfl (ev_f rfl (ev_f rfl (ev_t rfl ?_)))
    by_cases h : e3 = 0
    · subst h
      rw [Rat.pow_zero, Rat.mul_one] at g3
      exact ev_t rfl g3
    · exact ev_f (decide_eq_false (by show ¬ ((e3 : Int) = 0); omega)) (qaR zero (ev_t rfl (qb8 (x := mkQ x3) rfl (qaR (p3 h) (qaR f3 g3)))))
  have g1 : Ev (fun K => qbG K (.c2 [mkQ x1, mkQ x2, mkQ x3, mkQ x4] b4 (mkQ out) (mkQ ((c : Rat) * x1 ^ e1)) b14 (Mn.mk e1 e2 e3 e4).enc 0)) (mkQ R) := by
    refine qaW ?_
    simp only [qbG, w0]
    refine qaW ?_
    simp only [qbG]
    refine ev_t rfl (ev_f rfl (ev_t rfl ?_))
    by_cases h : e2 = 0
    · subst h
      rw [Rat.pow_zero, Rat.mul_one] at g2
      exact ev_t rfl g2
    · exact ev_f (decide_eq_false (by show ¬ ((e2 : Int) = 0); omega)) (qaR zero (ev_t rfl (qb8 (x := mkQ x2) rfl (qaR (p2 h) (qaR f2 g2)))))
  refine qaW ?_
  simp only [qbG]
  refine ev_t rfl (ev_t rfl ?_)
  by_cases h : e1 = 0
  · subst h
    rw [Rat.pow_zero, Rat.mul_one] at g1
    exact ev_t rfl g1
  · exact ev_f (decide_eq_false (by show ¬ ((e1 : Int) = 0); omega)) (qaR zero (ev_t rfl (qb8 (x := mkQ x1) rfl (qaR (p1 h) (qaR f1 g1)))))
theorem ztK {k n : Nat} {x1 x2 x3 x4 : Rat} (hk : k ≤ 100) (h1 : Sz k x1) (h2 : Sz k x2) (h3 : Sz k x3) (h4 : Sz k x4) (hn0 : 1 ≤ n) (hn : n ≤ 10000) (b4 : qaJ) (b14 : List qaM)
    {ρ : Nat → Rat} (r1 : ρ 1 = x1) (r2 : ρ 2 = x2) (r3 : ρ 3 = x3) (r4 : ρ 4 = x4) : ∀ (rest : List Tm) (s : Nat) (acc : Rat), s + rest.length * (n + 16 * k + 5) ≤ 100000000 → (∀ t ∈ rest, (t.c.natAbs : Int) < 4294967296 ^ n ∧ zaU 5 t) → Sz s acc →
    Sz (s + rest.length * (n + 16 * k + 5)) (acc + sumT ρ rest) ∧ Ev (fun K => itT K (fun z m c => qqJ K [mkQ x1, mkQ x2, mkQ x3, mkQ x4] b4 z b14 m c) (mkQ acc) (rest.map Tm.enc)) (mkQ (acc + sumT ρ rest))
  | [], s, acc, hs, hr, hz => by
    rw [sumT, Rat.add_zero]
    exact ⟨qmF (by simp) hz, qa6 _⟩
  | t :: rest, s, acc, hs, hr, hz => by
    obtain ⟨ht, he⟩ := hr t (by simp)
    rw [List.length_cons, Nat.add_mul, Nat.one_mul] at hs ⊢
    obtain ⟨k1, k2⟩ := zyY hk h1 h2 h3 h4 hn0 (by omega) (by omega) b4 b14 hz ht he r1 r2 r3 r4
    obtain ⟨k3, k4⟩ := ztK hk h1 h2 h3 h4 hn0 hn b4 b14 r1 r2 r3 r4 rest (s + (n + 16 * k + 4) + 1) (acc + t.ev ρ) (by omega) (fun t h => hr t (by simp [h])) k1
    have sa := qrL ht (by omega)
    have hN := qkU sa.1 (by have := sa.2; omega)
    rw [qdQ] at hN
    have e : acc + sumT ρ (t :: rest) = acc + t.ev ρ + sumT ρ rest := by rw [sumT]; grind
    rw [e]
    exact ⟨qmF (by omega) k3, qaR hN (qaR k2 k4)⟩
theorem zgS : Sz 1 (0 : Rat) := by refine ⟨?_, ?_⟩ <;> decide
theorem zhE {k n : Nat} {x1 x2 x3 x4 : Rat} (hk : k ≤ 100) (h1 : Sz k x1) (h2 : Sz k x2) (h3 : Sz k x3) (h4 : Sz k x4) (hn : n ≤ 1000) {ρ : Nat → Rat} (r1 : ρ 1 = x1) (r2 : ρ 2 = x2) (r3 : ρ 3 = x3) (r4 : ρ 4 = x4)
    {p : P} (hC : P.C 4 p) (hW : P.W n 5 p) : Sz (1 + 625 * (n + 16 * k + 7)) (p.ev ρ) ∧ Ev (fun K => quH K p.enc [mkQ x1, mkQ x2, mkQ x3, mkQ x4]) (mkQ (p.ev ρ)) := by
  obtain ⟨l, a1, a2, a3, a4⟩ := zmP hC hW (by omega) (by omega) (by omega)
  have hb := qfV (n + 1)
  have hs : ((sumA l : Nat) : Int) < 4294967296 ^ (n + 2) := by
    have h1 := zpJ (l := l) (B := ((4294967296 : Int) ^ (n + 1)).toNat) fun t ht => by have := (a4 t ht).2.1; omega
    rw [Int.pow_succ]
    have h2 : l.length * ((4294967296 : Int) ^ (n + 1)).toNat ≤ 625 * ((4294967296 : Int) ^ (n + 1)).toNat := Nat.mul_le_mul_right _ (by omega)
    omega
  obtain ⟨out, b1, b2⟩ := quX (l := l) (n := n + 2) (by omega) (by omega) hs
  have hol := b2.len
  have hmem := zh2 b2 hs fun t ht => (a4 t ht).2.2
  have hmul : out.length * (n + 2 + 16 * k + 5) ≤ 625 * (n + 2 + 16 * k + 5) := Nat.mul_le_mul_right _ (by omega)
  obtain ⟨c1, c2⟩ := ztK hk h1 h2 h3 h4 (n := n + 2) (by omega) (by omega) ⟨⟨false, []⟩, []⟩ (out.map Tm.enc) r1 r2 r3 r4 out 1 0 (by omega) (fun t ht => (hmem t ht).2) zgS
  have e : (0 : Rat) + sumT ρ out = p.ev ρ := by rw [b2.ev ρ, a2 ρ, Rat.zero_add]
  rw [e] at c1 c2
  refine ⟨qmF (by omega) c1, ?_⟩
  refine qaW ?_
  simp only [quH, qmM]
  refine qaR a1 (qaR (x := mkQ (p.ev ρ)) ?_ (qa6 _))
  refine qaW ?_
  simp only [q6U, qhF]
  refine qaR (qqN (z := 0) (by omega)) (qaR (x := out.map Tm.enc) ?_ ?_)
  · refine qaW ?_
    simp only [qo0, qhG]
    exact qaR b1 (qa6 _)
  · refine qaW ?_
    simp only [qhF]
    exact qaR c2 (qgA (by rw [List.length_map]; omega) (qa6 _))
open Go.Proofs.Tryz (prog)
inductive qvO where
 | c0 (a : (List qaG))
 | c1 (t6 : (List qaG)) (t7 : Int) (t8 : Int)
 | c2 (r20 : (List qaI)) (t6 : (List qaG)) (t7 : Int) (t8 : Int)
def qfD : Nat → qvO → Option (List qaI)
 | 0, _ => none
 | K + 1, .c0 a =>
  qfD K (.c1 a (a.length : Int) (0 : Int))
 | K + 1, .c1 t6 t7 t8 =>
  bif (decide (t8 < t7)) then
   (gi t6 t8).bind fun x2 =>
   (qd9 K (qaI.mk x2.Lo x2.Hi)).bind fun x4 =>
   qfD K (.c2 ([(qaI.mk x4.Lo x4.Hi)] : List qaI) t6 t7 (wI6 (t8 + (1 : Int))))
  else
   some []
 | K + 1, .c2 r20 t6 t7 t8 =>
  bif (decide (t8 < t7)) then
   (gi t6 t8).bind fun x2 =>
   (qd9 K (qaI.mk x2.Lo x2.Hi)).bind fun x4 =>
   gd ((r20 ++ ([(qaI.mk x4.Lo x4.Hi)] : List qaI)).length * 112 ≤ 140737488355328) <|
   qfD K (.c2 (r20 ++ ([(qaI.mk x4.Lo x4.Hi)] : List qaI)) t6 t7 (wI6 (t8 + (1 : Int))))
  else
   some r20
def q82 (K : Nat) (a : (List qaG)) : Option (List qaI) := qfD K (.c0 a)
noncomputable def qqO : Code := qcS prog 58
noncomputable def zmY : qvO → List Fr
 | .c0 .. => [.code qqO]
 | .c1 .. => [.code (.loop (atC qqO [1,1,0,1,0,0])), .blk 0, .code (atC qqO [1,1,1])]
 | .c2 .. => [.code (.loop (atC qqO [1,1,0,1,0,0])), .blk 0, .code (atC qqO [1,1,1])]
def zoI : qvO → St
 | .c0 a => St.init [(tl 10 a qaL)]
 | .c1 t6 t7 t8 => ⟨[(3, .c (C.nil)), (6, vl 10 t6 qaL), (7, vi .i64 t7), (8, vi .i64 t8)], [], []⟩
 | .c2 r20 t6 t7 t8 => ⟨[(3, .c (C.row 20 0 r20.length)), (6, vl 10 t6 qaL), (7, vi .i64 t7), (8, vi .i64 t8)], [(20, .row 43 6 (r20.map qaN) 0)], []⟩
def qz0 (cx : Cx) (c : qvO) (r : (List qaI)) : Prop := Wk prog cx (qd8 prog 58 [[6]] (tl 6 r qaN)) (zmY c) .normal (zoI c)
abbrev qz1 (K : Nat) : Prop := ∀ c r, qfD K c = some r → ∀ cx : Cx, cx.n = 23 → qz0 cx c r
theorem zoM {K} (ih : qz1 K) {cx} (hn : cx.n = 23) {a} {r} (h : qfD (K + 1) (.c0 a) = some r) : qz0 cx (.c0 a) r := by
 rw [qfD] at h
 exact wkG [rg1, rg1, rgG [oo, opI (.ln (a.length : Int)), oo], .pre [.keep [3,6,7,8] []]] hn (aC (qdI a qaL) <| aN) (ih _ _ h cx hn)
theorem zoL {K} (ih : qz1 K) {cx} (hn : cx.n = 23) {t6 t7 t8} {r} (h : qfD (K + 1) (.c1 t6 t7 t8) = some r) : qz0 cx (.c1 t6 t7 t8) r := by
 rw [qfD] at h
 rcases qa0 h with ⟨h1, h⟩ | ⟨h1, h⟩
 ·obtain ⟨x2, h3, h⟩ := qaU h
  obtain ⟨x4, h5, h⟩ := qaU h
  exact wkG [.go, rg1, bTr, rgG [opI (.ix (qaL x2)), oo, oo, oo], rgG [oo, oo, oo, oo, oo, oo, opI (.call [[0,1,1,0,1,1]] [(TV.agg (qaN (qaI.mk x2.Lo x2.Hi)))] (TV.agg (qaN x4))), opI (.lit (([(qaI.mk x4.Lo x4.Hi)] : List qaI).map qaN)), opI (.appN (([(qaI.mk x4.Lo x4.Hi)] : List qaI).map qaN)), oo], rg2, .pre [.rl 3 0 ([(qaI.mk x4.Lo x4.Hi)] : List qaI).length, .keep [3,6,7,8] [20]]] hn (aC h1 <| aC (qb5 h3) <| aC (qfP qaL h3) <| aC (qdM h5) <| aC (by kernel_rfl : [(T.bool x4.Lo.Num.Neg), (T.sl 1 (x4.Lo.Num.Abs.map qaF)), (T.sl 1 (x4.Lo.Den.map qaF)), (T.bool x4.Hi.Num.Neg), (T.sl 1 (x4.Hi.Num.Abs.map qaF)), (T.sl 1 (x4.Hi.Den.map qaF))] = (([(qaI.mk x4.Lo x4.Hi)] : List qaI).map qaN).flatten) <| aC (qeH _ _ _ (by simp) : ((([(qaI.mk x4.Lo x4.Hi)] : List qaI).map qaN).drop 0).take 1 = ([(qaI.mk x4.Lo x4.Hi)] : List qaI).map qaN) <| aC (by simp : 0 < (([(qaI.mk x4.Lo x4.Hi)] : List qaI).map qaN).length) <| aC (by simp : (([(qaI.mk x4.Lo x4.Hi)] : List qaI).map qaN).length * 112 ≤ 140737488355328) <| aC (by simp [maxLen] : (([(qaI.mk x4.Lo x4.Hi)] : List qaI).map qaN).length ≤ maxLen) <| aC r0 <| aC (by simp : (([(qaI.mk x4.Lo x4.Hi)] : List qaI).map qaN).length = ([(qaI.mk x4.Lo x4.Hi)] : List qaI).length) <| aN) (ih _ _ h cx hn)
 ·have h := oinj h; subst h
  exact wkR [.go, rg1, bFa, rg2] hn (aC h1 <| aN)
theorem zoK {K} (ih : qz1 K) {cx} (hn : cx.n = 23) {r20 t6 t7 t8} {r} (h : qfD (K + 1) (.c2 r20 t6 t7 t8) = some r) : qz0 cx (.c2 r20 t6 t7 t8) r := by
 rw [qfD] at h
 rcases qa0 h with ⟨h1, h⟩ | ⟨h1, h⟩
 ·obtain ⟨x2, h3, h⟩ := qaU h
  obtain ⟨x4, h5, h⟩ := qaU h
  obtain ⟨h6, h⟩ := qbV h
  exact wkG [.go, rg1, bTr, rgG [opI (.ix (qaL x2)), oo, oo, oo], .pre [.keep [3,5,6,7,8] [5,20]], rgG [oo, oo, oo, oo, oo, oo, opI (.call [[0,1,1,0,1,1]] [(TV.agg (qaN (qaI.mk x2.Lo x2.Hi)))] (TV.agg (qaN x4))), opI (.lit (([(qaI.mk x4.Lo x4.Hi)] : List qaI).map qaN)), .appR (([(qaI.mk x4.Lo x4.Hi)] : List qaI).map qaN) ((r20 ++ ([(qaI.mk x4.Lo x4.Hi)] : List qaI)).map qaN), oo], rg2, .pre [.rl 3 0 (r20 ++ ([(qaI.mk x4.Lo x4.Hi)] : List qaI)).length, .keep [3,6,7,8] [20]]] hn (aC h1 <| aC (qb5 h3) <| aC (qfP qaL h3) <| aC (qdM h5) <| aC (by kernel_rfl : [(T.bool x4.Lo.Num.Neg), (T.sl 1 (x4.Lo.Num.Abs.map qaF)), (T.sl 1 (x4.Lo.Den.map qaF)), (T.bool x4.Hi.Num.Neg), (T.sl 1 (x4.Hi.Num.Abs.map qaF)), (T.sl 1 (x4.Hi.Den.map qaF))] = (([(qaI.mk x4.Lo x4.Hi)] : List qaI).map qaN).flatten) <| aC (by simp : r20.length = (r20.map qaN).length) <| aC (qeH _ _ _ (by simp) : ((([(qaI.mk x4.Lo x4.Hi)] : List qaI).map qaN).drop 0).take 1 = ([(qaI.mk x4.Lo x4.Hi)] : List qaI).map qaN) <| aC (qk5 _ _ _ : r20.map qaN ++ ([(qaI.mk x4.Lo x4.Hi)] : List qaI).map qaN = (r20 ++ ([(qaI.mk x4.Lo x4.Hi)] : List qaI)).map qaN) <| aC ((qcZ _ _).symm ▸ h6 : ((r20 ++ ([(qaI.mk x4.Lo x4.Hi)] : List qaI)).map qaN).length * 112 ≤ 140737488355328) <| aC ((qcZ _ _).symm ▸ room (by decide) h6 : ((r20 ++ ([(qaI.mk x4.Lo x4.Hi)] : List qaI)).map qaN).length ≤ maxLen) <| aC r0 <| aC (by simp : ((r20 ++ ([(qaI.mk x4.Lo x4.Hi)] : List qaI)).map qaN).length = (r20 ++ ([(qaI.mk x4.Lo x4.Hi)] : List qaI)).length) <| aN) (ih _ _ h cx hn)
 ·have h := oinj h; subst h
  exact wkR [.go, rg1, bFa, rgG [oo, oo, .snap 2 (max 0 (0 + r20.length)) (r20.map qaN)]] hn (aC h1 <| aC (qeH _ _ _ (by simp) : ((r20.map qaN).drop 0).take r20.length = r20.map qaN) <| aC (rfl : (max 0 (0 + r20.length)) = (max 0 (0 + r20.length))) <| aN)
theorem qvN : ∀ K : Nat, qz1 K
 | 0, c, r, h => by rw [qfD] at h; cases h
 | K + 1, .c0 .., r, h => fun cx hn => zoM (qvN K) hn h
 | K + 1, .c1 .., r, h => fun cx hn => zoL (qvN K) hn h
 | K + 1, .c2 .., r, h => fun cx hn => zoK (qvN K) hn h
theorem zh0 {K : Nat} {a : (List qaG)} {r : (List qaI)} (h : q82 K a = some r) : qc7 prog 58 [(tl 10 a qaL)] (tl 6 r qaN) :=
 qbL [[6]] (by kernel_rfl) (by simp) fun cx hn => qvN K (.c0 a) r h cx hn
open Go.Proofs.Tryz (prog)
inductive qpX where
 | c0 (p : qaD) (box : (List qaI))
 | c1 (p : qaD) (b4 : qaI) (out : qaI) (box : (List qaI)) (i : Int)
def qdB : Nat → qpX → Option qaI
 | 0, _ => none
 | K + 1, .c0 p box =>
  bif (decide (p.Level ≤ (0 : Int))) then
   (qsH K p.Const).bind fun x2 =>
   (qt8 K x2).bind fun x4 =>
   some (qaI.mk x4.Lo x4.Hi)
  else
   (gid qcC p.Coefs (wI6 ((p.Coefs.length : Int) - (1 : Int)))).bind fun x2 =>
   (qdB K (.c0 x2 box)).bind fun x4 =>
   qdB K (.c1 p (qaI.mk (qaJ.mk (qaE.mk false []) []) (qaJ.mk (qaE.mk false []) [])) (qaI.mk x4.Lo x4.Hi) box (wI6 ((wI6 ((p.Coefs.length : Int) - (1 : Int))) - (1 : Int))))
 | K + 1, .c1 p b4 out box i =>
  bif (decide ((0 : Int) ≤ i)) then
   (gi box (wI6 (p.Level - (1 : Int)))).bind fun x2 =>
   (quN K (qaI.mk out.Lo out.Hi) (qaI.mk x2.Lo x2.Hi)).bind fun x4 =>
   (gid qcC p.Coefs i).bind fun x6 =>
   (qdB K (.c0 x6 box)).bind fun x8 =>
   (quP K (qaI.mk x4.Lo x4.Hi) (qaI.mk x8.Lo x8.Hi)).bind fun x10 =>
   qdB K (.c1 p (qaI.mk b4.Lo b4.Hi) (qaI.mk x10.Lo x10.Hi) box (wI6 (i - (1 : Int))))
  else
   some (qaI.mk out.Lo out.Hi)
def q8Z (K : Nat) (p : qaD) (box : (List qaI)) : Option qaI := qdB K (.c0 p box)
noncomputable def qsJ : Code := qcS prog 57
noncomputable def zb8 : qpX → List Fr
 | .c0 .. => [.code qsJ]
 | .c1 .. => [.code (.loop (atC qsJ [1,1,1,1,0,1,0,0])), .blk 0, .code (atC qsJ [1,1,1,1,1])]
def zfF : qpX → St
 | .c0 p box => St.init [(TV.agg (qaC p)), (tl 6 box qaN)]
 | .c1 p b4 out box i => ⟨[(1, vl 6 box qaN), (2, .c (C.ptr 2 0)), (4, .c (C.ptr 4 0)), (6, .c (C.ptr 6 0)), (7, vi .i64 i)], [(2, .var ((qaC p).map C.t)), (4, .var ((qaN (qaI.mk b4.Lo b4.Hi)).map C.t)), (6, .var ((qaN (qaI.mk out.Lo out.Hi)).map C.t))], []⟩
def qwA (cx : Cx) (c : qpX) (r : qaI) : Prop := Wk prog cx (qd8 prog 57 [[0,1,1,0,1,1]] (TV.agg (qaN r))) (zb8 c) .normal (zfF c)
abbrev qsK (K : Nat) : Prop := ∀ c r, qdB K c = some r → ∀ cx : Cx, cx.n = 49 → qwA cx c r
theorem qxM (K : Nat) (ih : qsK K) {p : qaD} {box : (List qaI)} {r : qaI} (h : qdB K (.c0 p box) = some r) : qc7 prog 57 [(TV.agg (qaC p)), (tl 6 box qaN)] (TV.agg (qaN r)) :=
 qbL [[0,1,1,0,1,1]] (by kernel_rfl) (by simp) fun cx hn => ih (.c0 p box) r h cx hn
theorem zfH {K} (ih : qsK K) {cx} (hn : cx.n = 49) {p box} {r} (h : qdB (K + 1) (.c0 p box) = some r) : qwA cx (.c0 p box) r := by
 rw [qdB] at h
 rcases qa0 h with ⟨h1, h⟩ | ⟨h1, h⟩
 ·obtain ⟨x2, h3, h⟩ := qaU h
  obtain ⟨x4, h5, h⟩ := qaU h
  have h := oinj h; subst h
  exact wkR [rg2, rg3, bTr, rgG [oo, oo, opI (.call [[0,1]] [(TV.agg (qaK p.Const))] (TV.agg (qaB x2))), opI (.call [[0,1,1]] [(TV.agg (qaB x2))] (TV.agg (qaN x4))), oo]] hn (aC h1 <| aC (qv9 h3) <| aC (q46 h5) <| aN)
 ·obtain ⟨x2, h3, h⟩ := qaU h
  obtain ⟨x4, h5, h⟩ := qaU h
  exact wkG [rg2, rg3, bFa, rgG [oo, oo, opI (.ln (p.Coefs.length : Int)), oo, oo], rgG [oo, oo, oo, opI (.ix (qaC x2)), oo, oo, opI (.call [[0,0,1,4], [6]] [(TV.agg (qaC x2)), (tl 6 box qaN)] (TV.agg (qaN x4))), oo, oo], rg3, .pre [.tellB 4 [0,1,1,0,1,1], .keep [1,2,4,6,7] [2,4,6]]] hn (aC h1 <| aC (qdI p.Coefs rid) <| aC (qk2 h3 : 0 ≤ (wI6 ((p.Coefs.length : Int) - (1 : Int)))) <| aC (qn0 @qbC h3 : (p.Coefs.map rid)[(wI6 ((p.Coefs.length : Int) - (1 : Int))).toNat]? = some (qaC x2)) <| aC (qxM K ih h5 : qc7 prog 57 [(TV.agg (qaC x2)), (tl 6 box qaN)] (TV.agg (qaN x4))) <| aN) (ih _ _ h cx hn)
theorem zfG {K} (ih : qsK K) {cx} (hn : cx.n = 49) {p b4 out box i} {r} (h : qdB (K + 1) (.c1 p b4 out box i) = some r) : qwA cx (.c1 p b4 out box i) r := by
 rw [qdB] at h
 rcases qa0 h with ⟨h1, h⟩ | ⟨h1, h⟩
 ·obtain ⟨x2, h3, h⟩ := qaU h
  obtain ⟨x4, h5, h⟩ := qaU h
  obtain ⟨x6, h7, h⟩ := qaU h
  obtain ⟨x8, h9, h⟩ := qaU h
  obtain ⟨x10, h11, h⟩ := qaU h
  exact wkG [.go, rg2, bTr, .draw [.p, .p, .p, .p, .p, (.ix (qaN x2)), .p, (.call [[0,1,1,0,1,1], [0,1,1,0,1,1]] [(TV.agg (qaN (qaI.mk out.Lo out.Hi))), (TV.agg (qaN (qaI.mk x2.Lo x2.Hi)))] (TV.agg (qaN x4))), .p, .p, .p, (.ix (qaC x6)), .p, .p] [opI (.call [[0,0,1,4], [6]] [(TV.agg (qaC x6)), (tl 6 box qaN)] (TV.agg (qaN x8))), opI (.call [[0,1,1,0,1,1], [0,1,1,0,1,1]] [(TV.agg (qaN (qaI.mk x4.Lo x4.Hi))), (TV.agg (qaN (qaI.mk x8.Lo x8.Hi)))] (TV.agg (qaN x10))), .op .p], rg3, .pre [.keep [1,2,4,6,7] [2,4,6]]] hn (aC h1 <| aC (qb5 h3) <| aC (qfP qaN h3) <| aC (q92 h5) <| aC (qk2 h7 : 0 ≤ i) <| aC (qn0 @qbC h7 : (p.Coefs.map rid)[i.toNat]? = some (qaC x6)) <| aC (qxM K ih h9 : qc7 prog 57 [(TV.agg (qaC x6)), (tl 6 box qaN)] (TV.agg (qaN x8))) <| aC (q93 h11) <| aN) (ih _ _ h cx hn)
 ·have h := oinj h; subst h
  exact wkR [.go, rg2, bFa, rg2] hn (aC h1 <| aN)
theorem qtN : ∀ K : Nat, qsK K
 | 0, c, r, h => by rw [qdB] at h; cases h
 | K + 1, .c0 .., r, h => fun cx hn => zfH (qtN K) hn h
 | K + 1, .c1 .., r, h => fun cx hn => zfG (qtN K) hn h
theorem q65 {K : Nat} {p : qaD} {box : (List qaI)} {r : qaI} (h : q8Z K p box = some r) : qc7 prog 57 [(TV.agg (qaC p)), (tl 6 box qaN)] (TV.agg (qaN r)) :=
 qbL [[0,1,1,0,1,1]] (by kernel_rfl) (by simp) fun cx hn => qtN K (.c0 p box) r h cx hn
open Go.Proofs.Tryz (prog)
inductive qpY where
 | c0 (p : qaD) (a : (List qaG))
def qlM : Nat → qpY → Option (qaI × Int)
 | 0, _ => none
 | K + 1, .c0 p a =>
  (qqL K p).bind fun x1 =>
  bif (decide ((a.length : Int) < x1.Level)) then
   some ((qaI.mk (qaJ.mk (qaE.mk false []) []) (qaJ.mk (qaE.mk false []) [])), (1 : Int))
  else
   (q82 K a).bind fun x4 =>
   (q8Z K x1 x4).bind fun x6 =>
   some ((qaI.mk x6.Lo x6.Hi), (0 : Int))
def qnG (K : Nat) (p : qaD) (a : (List qaG)) : Option (qaI × Int) := qlM K (.c0 p a)
noncomputable def q81 : Code := qcS prog 17
noncomputable def zb9 : qpY → List Fr
 | .c0 .. => [.code q81]
def zfI : qpY → St
 | .c0 p a => St.init [(TV.agg (qaC p)), (tl 10 a qaL)]
def q3B (cx : Cx) (c : qpY) (r : (qaI × Int)) : Prop := Wk prog cx (qd8 prog 17 [[0,1,1,0,1,1], [0]] (TV.tup [(true, qaN r.1), (false, [(T.int .i64 r.2)])])) (zb9 c) .normal (zfI c)
abbrev q3C (K : Nat) : Prop := ∀ c r, qlM K c = some r → ∀ cx : Cx, cx.n = 19 → q3B cx c r
theorem zfJ {K} (_ : q3C K) {cx} (hn : cx.n = 19) {p a} {r} (h : qlM (K + 1) (.c0 p a) = some r) : q3B cx (.c0 p a) r := by
 rw [qlM] at h
 obtain ⟨x1, h2, h⟩ := qaU h
 rcases qa0 h with ⟨h3, h⟩ | ⟨h3, h⟩
 ·have h := oinj h; subst h
  exact wkR [rg3, rgG [oo, opI (.call [[0,0,1,4]] [(TV.agg (qaC p))] (TV.agg (qaC x1))), oo, oo], rgG [oo, oo, oo, opI (.ln (a.length : Int)), oo], bTr, rg3] hn (aC (qqF h2) <| aC (qdI a qaL) <| aC h3 <| aN)
 ·obtain ⟨x4, h5, h⟩ := qaU h
  obtain ⟨x6, h7, h⟩ := qaU h
  have h := oinj h; subst h
  exact wkR [rg3, rgG [oo, opI (.call [[0,0,1,4]] [(TV.agg (qaC p))] (TV.agg (qaC x1))), oo, oo], rgG [oo, oo, oo, opI (.ln (a.length : Int)), oo], bFa, .draw [.p, .p, (.call [[10]] [(tl 10 a qaL)] (tl 6 x4 qaN))] [opI (.call [[0,0,1,4], [6]] [(TV.agg (qaC x1)), (tl 6 x4 qaN)] (TV.agg (qaN x6))), .op .p, .op .p]] hn (aC (qqF h2) <| aC (qdI a qaL) <| aC h3 <| aC (zh0 h5) <| aC (q65 h7) <| aN)
theorem qyV : ∀ K : Nat, q3C K
 | 0, c, r, h => by rw [qlM] at h; cases h
 | K + 1, .c0 .., r, h => fun cx hn => zfJ (qyV K) hn h
theorem qfY {K : Nat} {p : qaD} {a : (List qaG)} {r : (qaI × Int)} (h : qnG K p a = some r) : qc7 prog 17 [(TV.agg (qaC p)), (tl 10 a qaL)] (TV.tup [(true, qaN r.1), (false, [(T.int .i64 r.2)])]) :=
 qbL [[0,1,1,0,1,1], [0]] (by kernel_rfl) (by simp) fun cx hn => qyV K (.c0 p a) r h cx hn
open Go.Proofs.Tryz (prog)
inductive qvM where
 | c0 (r_v : qaJ)
def qrW : Nat → qvM → Option qaG
 | 0, _ => none
 | K + 1, .c0 r_v =>
  (qhK K r_v).bind fun x1 =>
  (qhK K r_v).bind fun x3 =>
  some (qaG.mk (qaD.mk (0 : Int) (qaE.mk false []) []) x1 x3)
def q3A (K : Nat) (r_v : qaJ) : Option qaG := qrW K (.c0 r_v)
noncomputable def zkG : Code := qcS prog 103
noncomputable def zmX : qvM → List Fr
 | .c0 .. => [.code zkG]
def zoF : qvM → St
 | .c0 r_v => St.init [(TV.agg (qaB r_v))]
def zhY (cx : Cx) (c : qvM) (r : qaG) : Prop := Wk prog cx (qd8 prog 103 [[0,0,1,4,0,1,1,0,1,1]] (TV.agg (qaL r))) (zmX c) .normal (zoF c)
abbrev zhZ (K : Nat) : Prop := ∀ c r, qrW K c = some r → ∀ cx : Cx, cx.n = 8 → zhY cx c r
theorem zoG {K} (_ : zhZ K) {cx} (hn : cx.n = 8) {r_v} {r} (h : qrW (K + 1) (.c0 r_v) = some r) : zhY cx (.c0 r_v) r := by
 rw [qrW] at h
 obtain ⟨x1, h2, h⟩ := qaU h
 obtain ⟨x3, h4, h⟩ := qaU h
 have h := oinj h; subst h
 exact wkR [rg2, .draw [.p, (.call [[0,1,1]] [(TV.agg (qaB r_v))] (TV.agg (qaB x1))), .p] [opI (.call [[0,1,1]] [(TV.agg (qaB r_v))] (TV.agg (qaB x3))), .op .p, .op .p]] hn (aC (qg0 h2) <| aC (qg0 h4) <| aN)
theorem q80 : ∀ K : Nat, zhZ K
 | 0, c, r, h => by rw [qrW] at h; cases h
 | K + 1, .c0 .., r, h => fun cx hn => zoG (q80 K) hn h
theorem q29 {K : Nat} {r_v : qaJ} {r : qaG} (h : q3A K r_v = some r) : qc7 prog 103 [(TV.agg (qaB r_v))] (TV.agg (qaL r)) :=
 qbL [[0,0,1,4,0,1,1,0,1,1]] (by kernel_rfl) (by simp) fun cx hn => q80 K (.c0 r_v) r h cx hn
open Go.Proofs.Tryz (prog)
inductive qxO where
 | c0 (list : (List qaJ))
 | c1 (t6 : (List qaJ)) (t7 : Int) (t8 : Int)
 | c2 (r16 : (List qaG)) (t6 : (List qaJ)) (t7 : Int) (t8 : Int)
def qfX : Nat → qxO → Option (List qaG)
 | 0, _ => none
 | K + 1, .c0 list =>
  qfX K (.c1 list (list.length : Int) (0 : Int))
 | K + 1, .c1 t6 t7 t8 =>
  bif (decide (t8 < t7)) then
   (gi t6 t8).bind fun x2 =>
   (q3A K x2).bind fun x4 =>
   qfX K (.c2 ([x4] : List qaG) t6 t7 (wI6 (t8 + (1 : Int))))
  else
   some []
 | K + 1, .c2 r16 t6 t7 t8 =>
  bif (decide (t8 < t7)) then
   (gi t6 t8).bind fun x2 =>
   (q3A K x2).bind fun x4 =>
   gd ((r16 ++ ([x4] : List qaG)).length * 176 ≤ 140737488355328) <|
   qfX K (.c2 (r16 ++ ([x4] : List qaG)) t6 t7 (wI6 (t8 + (1 : Int))))
  else
   some r16
def zgH (K : Nat) (list : (List qaJ)) : Option (List qaG) := qfX K (.c0 list)
noncomputable def qsL : Code := qcS prog 42
noncomputable def zoH : qxO → List Fr
 | .c0 .. => [.code qsL]
 | .c1 .. => [.code (.loop (atC qsL [1,1,0,1,0,0])), .blk 0, .code (atC qsL [1,1,1])]
 | .c2 .. => [.code (.loop (atC qsL [1,1,0,1,0,0])), .blk 0, .code (atC qsL [1,1,1])]
def zpP : qxO → St
 | .c0 list => St.init [(tl 3 list qaB)]
 | .c1 t6 t7 t8 => ⟨[(3, .c (C.nil)), (6, vl 3 t6 qaB), (7, vi .i64 t7), (8, vi .i64 t8)], [], []⟩
 | .c2 r16 t6 t7 t8 => ⟨[(3, .c (C.row 16 0 r16.length)), (6, vl 3 t6 qaB), (7, vi .i64 t7), (8, vi .i64 t8)], [(16, .row 52 10 (r16.map qaL) 0)], []⟩
def q4E (cx : Cx) (c : qxO) (r : (List qaG)) : Prop := Wk prog cx (qd8 prog 42 [[10]] (tl 10 r qaL)) (zoH c) .normal (zpP c)
abbrev q4F (K : Nat) : Prop := ∀ c r, qfX K c = some r → ∀ cx : Cx, cx.n = 19 → q4E cx c r
theorem zpT {K} (ih : q4F K) {cx} (hn : cx.n = 19) {list} {r} (h : qfX (K + 1) (.c0 list) = some r) : q4E cx (.c0 list) r := by
 rw [qfX] at h
 exact wkG [rg1, rg1, rgG [oo, opI (.ln (list.length : Int)), oo], .pre [.keep [3,6,7,8] []]] hn (aC (qdI list qaB) <| aN) (ih _ _ h cx hn)
theorem zpS {K} (ih : q4F K) {cx} (hn : cx.n = 19) {t6 t7 t8} {r} (h : qfX (K + 1) (.c1 t6 t7 t8) = some r) : q4E cx (.c1 t6 t7 t8) r := by
 rw [qfX] at h
 rcases qa0 h with ⟨h1, h⟩ | ⟨h1, h⟩
 ·obtain ⟨x2, h3, h⟩ := qaU h
  obtain ⟨x4, h5, h⟩ := qaU h
  exact wkG [.go, rg1, bTr, rgG [opI (.ix (qaB x2)), oo, oo, oo], rgG [oo, oo, opI (.call [[0,1,1]] [(TV.agg (qaB x2))] (TV.agg (qaL x4))), opI (.lit (([x4] : List qaG).map qaL)), opI (.appN (([x4] : List qaG).map qaL)), oo], rg2, .pre [.rl 3 0 ([x4] : List qaG).length, .keep [3,6,7,8] [16]]] hn (aC h1 <| aC (qb5 h3) <| aC (qfP qaB h3) <| aC (q29 h5) <| aC (by kernel_rfl : [(T.int .i64 x4.Poly.Level), (T.bool x4.Poly.Const.Neg), (T.sl 1 (x4.Poly.Const.Abs.map qaF)), (T.sl 4 (x4.Poly.Coefs.map rid)), (T.bool x4.Lo.Num.Neg), (T.sl 1 (x4.Lo.Num.Abs.map qaF)), (T.sl 1 (x4.Lo.Den.map qaF)), (T.bool x4.Hi.Num.Neg), (T.sl 1 (x4.Hi.Num.Abs.map qaF)), (T.sl 1 (x4.Hi.Den.map qaF))] = (([x4] : List qaG).map qaL).flatten) <| aC (qeH _ _ _ (by simp) : ((([x4] : List qaG).map qaL).drop 0).take 1 = ([x4] : List qaG).map qaL) <| aC (by simp : 0 < (([x4] : List qaG).map qaL).length) <| aC (by simp : (([x4] : List qaG).map qaL).length * 176 ≤ 140737488355328) <| aC (by simp [maxLen] : (([x4] : List qaG).map qaL).length ≤ maxLen) <| aC r0 <| aC (by simp : (([x4] : List qaG).map qaL).length = ([x4] : List qaG).length) <| aN) (ih _ _ h cx hn)
 ·have h := oinj h; subst h
  exact wkR [.go, rg1, bFa, rg2] hn (aC h1 <| aN)
theorem zpR {K} (ih : q4F K) {cx} (hn : cx.n = 19) {r16 t6 t7 t8} {r} (h : qfX (K + 1) (.c2 r16 t6 t7 t8) = some r) : q4E cx (.c2 r16 t6 t7 t8) r := by
 rw [qfX] at h
 rcases qa0 h with ⟨h1, h⟩ | ⟨h1, h⟩
 ·obtain ⟨x2, h3, h⟩ := qaU h
  obtain ⟨x4, h5, h⟩ := qaU h
  obtain ⟨h6, h⟩ := qbV h
  exact wkG [.go, rg1, bTr, rgG [opI (.ix (qaB x2)), oo, oo, oo], .pre [.keep [3,5,6,7,8] [5,16]], rgG [oo, oo, opI (.call [[0,1,1]] [(TV.agg (qaB x2))] (TV.agg (qaL x4))), opI (.lit (([x4] : List qaG).map qaL)), .appR (([x4] : List qaG).map qaL) ((r16 ++ ([x4] : List qaG)).map qaL), oo], rg2, .pre [.rl 3 0 (r16 ++ ([x4] : List qaG)).length, .keep [3,6,7,8] [16]]] hn (aC h1 <| aC (qb5 h3) <| aC (qfP qaB h3) <| aC (q29 h5) <| aC (by kernel_rfl : [(T.int .i64 x4.Poly.Level), (T.bool x4.Poly.Const.Neg), (T.sl 1 (x4.Poly.Const.Abs.map qaF)), (T.sl 4 (x4.Poly.Coefs.map rid)), (T.bool x4.Lo.Num.Neg), (T.sl 1 (x4.Lo.Num.Abs.map qaF)), (T.sl 1 (x4.Lo.Den.map qaF)), (T.bool x4.Hi.Num.Neg), (T.sl 1 (x4.Hi.Num.Abs.map qaF)), (T.sl 1 (x4.Hi.Den.map qaF))] = (([x4] : List qaG).map qaL).flatten) <| aC (by simp : r16.length = (r16.map qaL).length) <| aC (qeH _ _ _ (by simp) : ((([x4] : List qaG).map qaL).drop 0).take 1 = ([x4] : List qaG).map qaL) <| aC (qk5 _ _ _ : r16.map qaL ++ ([x4] : List qaG).map qaL = (r16 ++ ([x4] : List qaG)).map qaL) <| aC ((qcZ _ _).symm ▸ h6 : ((r16 ++ ([x4] : List qaG)).map qaL).length * 176 ≤ 140737488355328) <| aC ((qcZ _ _).symm ▸ room (by decide) h6 : ((r16 ++ ([x4] : List qaG)).map qaL).length ≤ maxLen) <| aC r0 <| aC (by simp : ((r16 ++ ([x4] : List qaG)).map qaL).length = (r16 ++ ([x4] : List qaG)).length) <| aN) (ih _ _ h cx hn)
 ·have h := oinj h; subst h
  exact wkR [.go, rg1, bFa, rgG [oo, oo, .snap 2 (max 0 (0 + r16.length)) (r16.map qaL)]] hn (aC h1 <| aC (qeH _ _ _ (by simp) : ((r16.map qaL).drop 0).take r16.length = r16.map qaL) <| aC (rfl : (max 0 (0 + r16.length)) = (max 0 (0 + r16.length))) <| aN)
theorem qxN : ∀ K : Nat, q4F K
 | 0, c, r, h => by rw [qfX] at h; cases h
 | K + 1, .c0 .., r, h => fun cx hn => zpT (qxN K) hn h
 | K + 1, .c1 .., r, h => fun cx hn => zpS (qxN K) hn h
 | K + 1, .c2 .., r, h => fun cx hn => zpR (qxN K) hn h
theorem zkH {K : Nat} {list : (List qaJ)} {r : (List qaG)} (h : zgH K list = some r) : qc7 prog 42 [(tl 3 list qaB)] (tl 10 r qaL) :=
 qbL [[10]] (by kernel_rfl) (by simp) fun cx hn => qxN K (.c0 list) r h cx hn
def cd (x : qaD × Rat × Rat) : qaG := ⟨x.1, mkQ x.2.1, mkQ x.2.2⟩
def ratC (q : Rat) : qaD × Rat × Rat := (⟨0, ⟨false, []⟩, []⟩, q, q)
def ivP (x : Rat × Rat) : qaI := iv x.1 x.2
theorem zdN {k : Nat} {q : Rat} (h : Sz k q) (hk : k ≤ 1000000000) : Ev (fun K => q3A K (mkQ q)) (cd (ratC q)) := by
  have := qlW h hk
  refine qaW ?_
  simp only [q3A, qrW]
  exact qaR this (qaR this (qa6 _))
theorem of_c2 {k : Nat} (hk : k ≤ 1000000000) {l : List Rat} (hl : l.length ≤ 1000000) (h : ∀ q ∈ l, Sz k q) : ∀ (d i : Nat), i + d = l.length →
    Ev (fun K => qfX K (.c2 ((l.take i).map fun q => cd (ratC q)) (l.map mkQ) (l.length : Int) (i : Int))) (l.map fun q => cd (ratC q))
  | 0, i, hi => by
    refine qaW ?_
    simp only [qfX]
    rw [List.take_of_length_le (by omega)]
    exact ev_f (by simp; omega) (qa6 _)
  | d + 1, i, hi => by
    obtain ⟨t, ht⟩ : ∃ c, l[i]? = some c := ⟨_, List.getElem?_eq_getElem (by omega)⟩
    have wi : wI6 ((i : Int) + 1) = ((i + 1 : Nat) : Int) := by rw [qdF (by omega)]; omega
    have hg : gi (l.map mkQ) (i : Int) = some (mkQ t) := zaF (by rw [List.getElem?_map, ht]; rfl)
    have e : ((l.take i).map fun q => cd (ratC q)) ++ [cd (ratC t)] = (l.take (i + 1)).map fun q => cd (ratC q) := by rw [List.take_add_one, ht, List.map_append]; rfl
    refine qaW ?_
    simp only [qfX, wi]
    refine ev_t (by simp; omega) (qb8 hg (qaR (zdN (h t (List.mem_of_getElem? ht)) hk) (qgA (by simp; omega) ?_)))
    rw [e]
    exact of_c2 hk hl h d (i + 1) (by omega)
theorem zpQ {k : Nat} (hk : k ≤ 1000000000) {l : List Rat} (hl : l.length ≤ 1000000) (h : ∀ q ∈ l, Sz k q) : Ev (fun K => zgH K (l.map mkQ)) (l.map fun q => cd (ratC q)) := by
  refine qaW ?_
  simp only [zgH, qfX]
  refine qaW ?_
  simp only [qfX]
  cases l with
  | nil => exact ev_f (by simp) (qa6 _)
  | cons t l =>
    refine ev_t (decide_eq_true (by simp only [List.length_map, List.length_cons]; omega)) (qb8 (x := mkQ t) rfl (qaR (zdN (h t (by simp)) hk) ?_))
    have := of_c2 hk hl h l.length 1 (by simp only [List.length_cons]; omega)
    rw [List.length_map, show wI6 ((0 : Int) + 1) = ((1 : Nat) : Int) by decide]
    exact this
def nrmI (x : Rat × Rat) : Rat × Rat := (lsQ x.1 x.2, gtQ x.1 x.2)
def SzI (k : Nat) (x : Rat × Rat) : Prop := Sz k x.1 ∧ Sz k x.2
theorem q76 {i j : Nat} (h : i ≤ j) {x : Rat × Rat} (hx : SzI i x) : SzI j x := ⟨qmF h hx.1, qmF h hx.2⟩
theorem zsL {k : Nat} {x : Rat × Rat} (h : SzI k x) : SzI k (nrmI x) := ⟨q1X h.1 h.2, q1Y h.1 h.2⟩
theorem zxJ {k : Nat} (hk : k ≤ 500000000) {l : List (qaD × Rat × Rat)} (hl : l.length ≤ 1000000) (h : ∀ q ∈ l, SzI k q.2) : ∀ (d i : Nat), i + d = l.length →
    Ev (fun K => qfD K (.c2 ((l.take i).map fun q => ivP (nrmI q.2)) (l.map cd) (l.length : Int) (i : Int))) (l.map fun q => ivP (nrmI q.2))
  | 0, i, hi => by
    refine qaW ?_
    simp only [qfD]
    rw [List.take_of_length_le (by omega)]
    exact ev_f (by simp; omega) (qa6 _)
  | d + 1, i, hi => by
    obtain ⟨t, ht⟩ : ∃ c, l[i]? = some c := ⟨_, List.getElem?_eq_getElem (by omega)⟩
    have wi : wI6 ((i : Int) + 1) = ((i + 1 : Nat) : Int) := by rw [qdF (by omega)]; omega
    have hg : gi (l.map cd) (i : Int) = some (cd t) := zaF (by rw [List.getElem?_map, ht]; rfl)
    have e : ((l.take i).map fun q => ivP (nrmI q.2)) ++ [ivP (nrmI t.2)] = (l.take (i + 1)).map fun q => ivP (nrmI q.2) := by rw [List.take_add_one, ht, List.map_append]; rfl
    have hm := h t (List.mem_of_getElem? ht)
    have ih := zxJ hk hl h d (i + 1) (by omega)
    rw [← e] at ih
    refine qaW ?_
    simp only [qfD, wi]
    exact ev_t (by simp; omega) (qb8 hg (qaR (qjS hm.1 hm.2 hk) (qgA (by simp; omega) ih)))
theorem zoJ {k : Nat} (hk : k ≤ 500000000) {l : List (qaD × Rat × Rat)} (hl : l.length ≤ 1000000) (h : ∀ q ∈ l, SzI k q.2) : Ev (fun K => q82 K (l.map cd)) (l.map fun q => ivP (nrmI q.2)) := by
  refine qaW ?_
  simp only [q82, qfD]
  refine qaW ?_
  simp only [qfD]
  cases l with
  | nil => exact ev_f (by simp) (qa6 _)
  | cons t l =>
    have hm := h t (by simp)
    have ih := zxJ hk hl h l.length 1 (by simp only [List.length_cons]; omega)
    have e : ((t :: l).take 1).map (fun q => ivP (nrmI q.2)) = [ivP (nrmI t.2)] := rfl
    rw [e] at ih
    rw [List.length_map, show wI6 ((0 : Int) + 1) = ((1 : Nat) : Int) by decide]
    exact ev_t (decide_eq_true (by simp only [List.length_cons]; omega)) (qb8 (x := cd t) rfl (qaR (qjS hm.1 hm.2 hk) ih))
def addI (x y : Rat × Rat) : Rat × Rat := (lsQ x.1 x.2 + lsQ y.1 y.2, gtQ x.1 x.2 + gtQ y.1 y.2)
def mulI (x y : Rat × Rat) : Rat × Rat := (lsQ (mlo x.1 x.2 y.1 y.2) (mhi x.1 x.2 y.1 y.2), gtQ (mlo x.1 x.2 y.1 y.2) (mhi x.1 x.2 y.1 y.2))
mutual
def P.encl (bx : Nat → Rat × Rat) : P → Rat × Rat
  | .k c => ((c : Rat), (c : Rat))
  | .p lv cs => P.encls bx (bx lv) cs
def P.encls (bx : Nat → Rat × Rat) (x : Rat × Rat) : List P → Rat × Rat
  | [] => (0, 0)
  | c :: cs => match cs with
    | [] => c.encl bx
    | _ :: _ => addI (mulI (P.encls bx x cs) x) (c.encl bx)
end
theorem zsM {i j : Nat} {x y : Rat × Rat} (hx : SzI i x) (hy : SzI j y) : SzI (i + j) (mulI x y) := by
  have a := qxE hx.1 hy.1
  have b := qxE hx.1 hy.2
  have c := qxE hx.2 hy.1
  have d := qxE hx.2 hy.2
  have l := q1X (q1X (q1X a b) c) d
  have g := q1Y (q1Y (q1Y a b) c) d
  exact ⟨q1X l g, q1Y l g⟩
theorem zx8 {i j : Nat} {x y : Rat × Rat} (hx : SzI i x) (hy : SzI j y) : SzI (i + j + 1) (addI x y) :=
  ⟨q75 (q1X hx.1 hx.2) (q1X hy.1 hy.2), q75 (q1Y hx.1 hx.2) (q1Y hy.1 hy.2)⟩
theorem zwB {i j : Nat} {x y : Rat × Rat} (hx : SzI i x) (hy : SzI j y) (h : i + j ≤ 500000000) : Ev (fun K => quN K (ivP x) (ivP y)) (ivP (mulI x y)) := ziO hx.1 hx.2 hy.1 hy.2 h
theorem zwC {i j : Nat} {x y : Rat × Rat} (hx : SzI i x) (hy : SzI j y) (h : i + j ≤ 500000000) : Ev (fun K => quP K (ivP x) (ivP y)) (ivP (addI x y)) := ziS hx.1 hx.2 hy.1 hy.2 h
def fS (n k m : Nat) : Nat → Nat
  | 0 => n
  | L + 1 => m * (fS n k m L + k + 1)
theorem znI {n k m : Nat} (hm : 1 ≤ m) {i j : Nat} (h : i ≤ j) : fS n k m i ≤ fS n k m j := by
  induction h with
  | refl => exact Nat.le_refl _
  | step _ ih =>
    rw [fS]
    exact Nat.le_trans ih (Nat.le_trans (by omega) (Nat.le_mul_of_pos_left _ hm))
theorem qvW (bx : Nat → Rat × Rat) (x : Rat × Rat) (c : P) {cs : List P} (h : cs ≠ []) : P.encls bx x (c :: cs) = addI (mulI (P.encls bx x cs) x) (c.encl bx) := by
  cases cs with
  | nil => exact absurd rfl h
  | cons d cs => rw [P.encls]
theorem qzI (bx : Nat → Rat × Rat) (x : Rat × Rat) (c : P) : P.encls bx x [c] = c.encl bx := by rw [P.encls]
theorem znL {bx : Nat → Rat × Rat} {x : Rat × Rat} {k f : Nat} (hx : SzI k x) : ∀ cs : List P, cs ≠ [] → (∀ c ∈ cs, SzI f (c.encl bx)) → SzI (cs.length * (f + k + 1)) (P.encls bx x cs)
  | [], h, _ => absurd rfl h
  | [c], _, hc => by rw [qzI]; exact q76 (by simp; omega) (hc c (by simp))
  | c :: d :: cs, _, hc => by
    rw [qvW _ _ _ (by simp)]
    have ih := znL (bx := bx) hx (d :: cs) (by simp) fun c h => hc c (by simp only [List.mem_cons] at h ⊢; exact .inr h)
    have := zx8 (zsM ih hx) (hc c (by simp))
    exact q76 (by simp only [List.length_cons, Nat.succ_mul]; omega) this
theorem zp5 {n k m : Nat} (hn : 1 ≤ n) (hm : 1 ≤ m) {bx : Nat → Rat × Rat} (hb : ∀ i, SzI k (bx i)) : ∀ (L : Nat) (p : P), P.C L p → P.W n m p → SzI (fS n k m L) (p.encl bx) := by
  intro L
  induction L using Nat.strongRecOn with
  | _ L ih =>
    intro p hC hW
    cases p with
    | k c =>
      rw [P.W] at hW
      rw [P.encl]
      obtain ⟨n', rfl⟩ : ∃ n', n = n' + 1 := ⟨n - 1, by omega⟩
      exact q76 (znI hm (Nat.zero_le L)) ⟨zl1 hW, zl1 hW⟩
    | p lv cs =>
      rw [P.C] at hC
      rw [P.W] at hW
      rw [P.encl]
      have h1 := znL (f := fS n k m (lv - 1)) (bx := bx) (hb lv) cs (by intro e; rw [e] at hC; simp at hC) fun c hc => ih (lv - 1) (by omega) c (qtF hC.2.2.2.1 c hc) (qxA hW.2 c hc)
      refine q76 (znI hm hC.2.1) ?_
      obtain ⟨l', rfl⟩ : ∃ l', lv = l' + 1 := ⟨lv - 1, by omega⟩
      rw [fS]
      exact q76 (Nat.mul_le_mul_right _ hW.1) h1
theorem ztY {p : qaD} {lv : Nat} (hp : p.Level = (lv : Int)) {cs : List P} (hpc : p.Coefs = P.raws cs) (h1 : 1 ≤ lv) (hlv : lv ≤ 1000000) (hl : cs.length ≤ 1000000) {bx : Nat → Rat × Rat} {box : List (Rat × Rat)} (hg : box[lv - 1]? = some (bx lv))
    {k f : Nat} (hx : SzI k (bx lv)) (hf : (cs.length + 1) * (f + k + 1) ≤ 400000000) (hc : ∀ c ∈ cs, SzI f (c.encl bx) ∧ Ev (fun K => qdB K (.c0 c.enc (box.map ivP))) (ivP (c.encl bx))) (b4 : qaI) :
    ∀ j : Nat, j < cs.length → Ev (fun K => qdB K (.c1 p b4 (ivP (P.encls bx (bx lv) (cs.drop j))) (box.map ivP) ((j : Int) - 1))) (ivP (P.encls bx (bx lv) cs))
  | 0, hj => by
    refine qaW ?_
    simp only [qdB]
    exact ev_f (by simp) (qa6 _)
  | j + 1, hj => by
    obtain ⟨c, hx0⟩ : ∃ c, cs[j]? = some c := ⟨_, List.getElem?_eq_getElem (by omega)⟩
    have hdr : cs.drop j = c :: cs.drop (j + 1) := by
      have hlt : j < cs.length := by omega
      rw [List.drop_eq_getElem_cons hlt]
      congr 1
      rw [List.getElem?_eq_getElem hlt] at hx0
      exact Option.some.inj hx0
    have hne : cs.drop (j + 1) ≠ [] := by
      intro e
      have := congrArg List.length e
      rw [List.length_drop, List.length_nil] at this
      omega
    have ih := ztY hp hpc h1 hlv hl hg hx hf hc b4 j (by omega)
    rw [hdr, qvW _ _ _ hne] at ih
    have e1 : (((j + 1 : Nat) : Int) - 1) = (j : Int) := by omega
    have w1 : wI6 ((lv : Int) - 1) = ((lv - 1 : Nat) : Int) := by rw [qdF (by omega)]; omega
    have w2 : wI6 ((j : Int) - 1) = (j : Int) - 1 := qdF (by omega)
    have hgi : gi (box.map ivP) ((lv - 1 : Nat) : Int) = some (ivP (bx lv)) := zaF (by rw [List.getElem?_map, hg]; rfl)
    have hsz := znL (bx := bx) hx (cs.drop (j + 1)) hne fun c h => (hc c (List.mem_of_mem_drop h)).1
    have hlen : (cs.drop (j + 1)).length * (f + k + 1) ≤ cs.length * (f + k + 1) := Nat.mul_le_mul_right _ (by rw [List.length_drop]; omega)
    rw [Nat.add_mul, Nat.one_mul] at hf
    obtain ⟨c1, c2⟩ := hc c (List.mem_of_getElem? hx0)
    refine qaW ?_
    rw [e1]
    simp only [qdB, hp, hpc, w1, w2]
    exact ev_t (by simp) (qb8 hgi (qaR (zwB hsz hx (by omega)) (qb8 (qj7 hx0) (qaR c2 (qaR (zwC (zsM hsz hx) c1 (by omega)) ih)))))
theorem zr2 {n k m : Nat} (hn : 1 ≤ n) (hm : 1 ≤ m) {bx : Nat → Rat × Rat} {box : List (Rat × Rat)} (hb : ∀ i, SzI k (bx i)) (hbox : ∀ i, i < box.length → box[i]? = some (bx (i + 1))) (hbl : box.length ≤ 1000000) (hm2 : m ≤ 1000000) {M : Nat} (hM : (m + 1) * (fS n k m M + k + 1) ≤ 400000000) :
    ∀ (L : Nat) (p : P), P.C L p → P.W n m p → L ≤ box.length → L ≤ M → Ev (fun K => qdB K (.c0 p.enc (box.map ivP))) (ivP (p.encl bx)) := by
  intro L
  induction L using Nat.strongRecOn with
  | _ L ih =>
    intro p hC hW hL hLM
    cases p with
    | k c =>
      rw [P.W] at hW
      have hfn : n ≤ fS n k m M := znI (n := n) (k := k) hm (Nat.zero_le M)
      have hfm : fS n k m M + k + 1 ≤ (m + 1) * (fS n k m M + k + 1) := Nat.le_mul_of_pos_left _ (by omega)
      have hz : Sz n (c : Rat) := by
        obtain ⟨n', rfl⟩ : ∃ n', n = n' + 1 := ⟨n - 1, by omega⟩
        exact zl1 hW
      have sa : Sm (mkI c) := q5I hz (by omega)
      refine qaW ?_
      simp only [qdB]
      exact ev_t rfl (qaR (q02 sa) (qaR (zcU hz (by omega)) (qa6 _)))
    | p lv cs =>
      have hsz := fun c h1 h2 => zp5 hn hm hb (lv - 1) c h1 h2
      rw [P.C] at hC
      rw [P.W] at hW
      have hall : ∀ c ∈ cs, SzI (fS n k m (lv - 1)) (c.encl bx) ∧ Ev (fun K => qdB K (.c0 c.enc (box.map ivP))) (ivP (c.encl bx)) := fun c hc =>
        ⟨hsz c (qtF hC.2.2.2.1 c hc) (qxA hW.2 c hc), ih (lv - 1) (by omega) c (qtF hC.2.2.2.1 c hc) (qxA hW.2 c hc) (by omega) (by omega)⟩
      have hf0 := znI (n := n) (k := k) hm (show lv - 1 ≤ M by omega)
      have hf : (cs.length + 1) * (fS n k m (lv - 1) + k + 1) ≤ 400000000 := Nat.le_trans (Nat.mul_le_mul (by omega) (by omega)) hM
      have hg : box[lv - 1]? = some (bx lv) := by
        have := hbox (lv - 1) (by omega)
        rw [Nat.sub_add_cancel hC.1] at this
        exact this
      have hlen : 2 ≤ cs.length := hC.2.2.1
      obtain ⟨c, hx0⟩ : ∃ c, cs[cs.length - 1]? = some c := ⟨_, List.getElem?_eq_getElem (by omega)⟩
      have hdr : cs.drop (cs.length - 1) = [c] := by
        have hlt : cs.length - 1 < cs.length := by omega
        rw [List.drop_eq_getElem_cons hlt, List.drop_eq_nil_of_le (by omega)]
        congr 1
        rw [List.getElem?_eq_getElem hlt] at hx0
        exact Option.some.inj hx0
      have hloop := ztY (p := (P.p lv cs).enc) rfl rfl hC.1 (by omega) (by omega) hg (hb lv) hf hall ⟨⟨⟨false, []⟩, []⟩, ⟨⟨false, []⟩, []⟩⟩ (cs.length - 1) (by omega)
      rw [hdr, qzI] at hloop
      have w1 : wI6 ((cs.length : Int) - 1) = ((cs.length - 1 : Nat) : Int) := by rw [qdF (by omega)]; omega
      have w2 : wI6 (((cs.length - 1 : Nat) : Int) - 1) = ((cs.length - 1 : Nat) : Int) - 1 := qdF (by omega)
      have hco : (P.p lv cs).enc.Coefs = P.raws cs := rfl
      have hle : (P.p lv cs).enc.Level = (lv : Int) := rfl
      refine qaW ?_
      simp only [qdB, hco, hle, qe3, w1, w2]
      refine ev_f (decide_eq_false (by omega)) (qb8 (qj7 hx0) (qaR (hall c (List.mem_of_getElem? hx0)).2 ?_))
      exact hloop
def bxOf (l : List (qaD × Rat × Rat)) (i : Nat) : Rat × Rat := match l[i - 1]? with
  | some q => nrmI q.2
  | none => (0, 0)
theorem q06 {n m k : Nat} (hn : 1 ≤ n) (hm : 1 ≤ m) (hn2 : n ≤ 100000) (hm2 : m ≤ 1000000) (hk1 : 1 ≤ k) (hk : k ≤ 500000000) (hM : (m + 1) * (fS n k m 4 + k + 1) ≤ 400000000) {l : List (qaD × Rat × Rat)} (hl : l.length ≤ 1000000) (h : ∀ q ∈ l, SzI k q.2) {p : P} (hC : P.C 4 p) (hW : P.W n m p) :
    Ev (fun K => qnG K p.enc (l.map cd)) (if l.length < p.lev then (⟨⟨⟨false, []⟩, []⟩, ⟨⟨false, []⟩, []⟩⟩, 1) else (ivP (p.encl (bxOf l)), 0)) := by
  have hNorm := qyO hC hW (by omega) (by omega)
  refine qaW ?_
  simp only [qnG, qlM]
  refine qaR hNorm ?_
  rw [zo1, List.length_map]
  by_cases hlv : l.length < p.lev
  · rw [if_pos hlv]
    exact ev_t (decide_eq_true (by omega)) (qa6 _)
  · rw [if_neg hlv]
    refine ev_f (decide_eq_false (by omega)) (qaR (zoJ hk hl h) ?_)
    have e : (l.map fun q => ivP (nrmI q.2)) = (l.map fun q => nrmI q.2).map ivP := by rw [List.map_map]; rfl
    have hCl : P.C p.lev p := by
      cases p with
      | k c => rw [P.C]; trivial
      | p lv cs => rw [P.C] at hC ⊢; exact ⟨hC.1, Nat.le_refl _, hC.2.2⟩
    have hb : ∀ i, SzI k (bxOf l i) := fun i => by
      unfold bxOf
      split
      · rename_i q hq; exact zsL (h q (List.mem_of_getElem? hq))
      · exact ⟨qmF hk1 zgS, qmF hk1 zgS⟩
    have hbox : ∀ i, i < (l.map fun q => nrmI q.2).length → (l.map fun q => nrmI q.2)[i]? = some (bxOf l (i + 1)) := fun i hi => by
      rw [List.length_map] at hi
      rw [List.getElem?_map]
      unfold bxOf
      rw [Nat.add_sub_cancel, List.getElem?_eq_getElem hi]
      rfl
    have hbl : (l.map fun q => nrmI q.2).length ≤ 1000000 := by rw [List.length_map]; exact hl
    have hpl : p.lev ≤ (l.map fun q => nrmI q.2).length := by rw [List.length_map]; omega
    have := zr2 (n := n) (k := k) (m := m) (M := 4) hn hm hb hbox hbl hm2 hM p.lev p hCl hW hpl (zuK hC)
    rw [← e] at this
    exact qaR this (qa6 _)
open Go.Proofs.Tryz (prog)
inductive qj9 where
 | c0 
def qgL : Nat → qj9 → Option Bool
 | 0, _ => none
 | K + 1, .c0  =>
  (qjX K (1 : Int)).bind fun x1 =>
  (qjX K (2 : Int)).bind fun x3 =>
  (zgH K ([x1, x3] : List qaJ)).bind fun x5 =>
  some (decide ((x5.length : Int) = (2 : Int)))
def qiV (K : Nat)  : Option Bool := qgL K .c0
noncomputable def qzO : Code := qcS prog 6
noncomputable def q0M : qj9 → List Fr
 | .c0  => [.code qzO]
def q2A : qj9 → St
 | .c0  => St.init []
def quR (cx : Cx) (c : qj9) (r : Bool) : Prop := Wk prog cx (qd8 prog 6 [[0]] (TV.c (T.bool r))) (q0M c) .normal (q2A c)
abbrev quS (K : Nat) : Prop := ∀ c r, qgL K c = some r → ∀ cx : Cx, cx.n = 7 → quR cx c r
theorem q2B {K} (_ : quS K) {cx} (hn : cx.n = 7)  {r} (h : qgL (K + 1) .c0 = some r) : quR cx .c0 r := by
 rw [qgL] at h
 obtain ⟨x1, h2, h⟩ := qaU h
 obtain ⟨x3, h4, h⟩ := qaU h
 obtain ⟨x5, h6, h⟩ := qaU h
 have h := oinj h; subst h
 exact wkR [rg1, rgG [opI (.call [[0]] [(TV.c (T.int .i64 (1 : Int)))] (TV.agg (qaB x1))), opI (.call [[0]] [(TV.c (T.int .i64 (2 : Int)))] (TV.agg (qaB x3))), opI (.lit (([x1, x3] : List qaJ).map qaB)), .snap 3 (max 0 (0 + 2)) (([x1, x3] : List qaJ).map qaB), opI (.call [[3]] [(TV.c (T.sl 3 (([x1, x3] : List qaJ).map qaB)))] (tl 10 x5 qaL)), opI (.ln (x5.length : Int)), oo, oo]] hn (aC (qeX h2) <| aC (qeX h4) <| aC (by kernel_rfl : [(T.bool x1.Num.Neg), (T.sl 1 (x1.Num.Abs.map qaF)), (T.sl 1 (x1.Den.map qaF)), (T.bool x3.Num.Neg), (T.sl 1 (x3.Num.Abs.map qaF)), (T.sl 1 (x3.Den.map qaF))] = (([x1, x3] : List qaJ).map qaB).flatten) <| aC (qeH _ _ _ (by simp) : ((([x1, x3] : List qaJ).map qaB).drop 0).take 2 = ([x1, x3] : List qaJ).map qaB) <| aC (rfl : (max 0 (0 + 2)) = (max 0 (0 + 2))) <| aC (zkH h6) <| aC (qdI x5 qaL) <| aN)
theorem qtD : ∀ K : Nat, quS K
 | 0, c, r, h => by rw [qgL] at h; cases h
 | K + 1, .c0, r, h => fun cx hn => q2B (qtD K) hn h
theorem qgP {K : Nat}  {r : Bool} (h : qiV K  = some r) : qc7 prog 6 [] (TV.c (T.bool r)) :=
 qbL [[0]] (by kernel_rfl) (by simp) fun cx hn => qtD K .c0 r h cx hn
theorem zrL : Ev (fun K => qiV K) true := by
  refine qaW ?_
  simp only [qiV, qgL]
  refine qaR (qqN (z := 1) (by omega)) (qaR (qqN (z := 2) (by omega)) ?_)
  have h := zpQ (k := 1) (by omega) (l := [((1 : Int) : Rat), ((2 : Int) : Rat)]) (by simp) (by
    intro q hq
    simp only [List.mem_cons, List.not_mem_nil, or_false] at hq
    rcases hq with rfl | rfl
    · exact zl1 (k := 0) (by decide)
    · exact zl1 (k := 0) (by decide))
  exact qaR h (qe4 (qa6 _) (by simp))
def A2Ok (q : zdG) : Prop := (-128 ≤ q.e0 ∧ q.e0 < 128) ∧ (-128 ≤ q.e1 ∧ q.e1 < 128)
def inI (u : Rat) (x : Rat × Rat) : Prop := x.1 ≤ u ∧ u ≤ x.2
def subI (x y : Rat × Rat) : Prop := y.1 ≤ x.1 ∧ x.2 ≤ y.2
theorem q1E (a b : Rat) : lsQ a b ≤ a := by unfold lsQ; split <;> grind
theorem ztH (a b : Rat) : lsQ a b ≤ b := by unfold lsQ; split <;> grind
theorem ziL (a b : Rat) : a ≤ gtQ a b := by unfold gtQ; split <;> grind
theorem zdR (a b : Rat) : b ≤ gtQ a b := by unfold gtQ; split <;> grind
theorem zoQ {a b : Rat} (h : a ≤ b) : lsQ a b = a := by unfold lsQ; split <;> grind
theorem zoW {a b : Rat} (h : a ≤ b) : gtQ a b = b := by unfold gtQ; split <;> grind
theorem zyR {a b c : Rat} (h1 : c ≤ a) (h2 : c ≤ b) : c ≤ lsQ a b := by unfold lsQ; split <;> assumption
theorem zyX {a b c : Rat} (h1 : a ≤ c) (h2 : b ≤ c) : gtQ a b ≤ c := by unfold gtQ; split <;> assumption
theorem ztE {a b u v lo hi : Rat} (h1 : a ≤ u) (h2 : u ≤ b) (ha : lo ≤ a * v ∧ a * v ≤ hi) (hb : lo ≤ b * v ∧ b * v ≤ hi) : lo ≤ u * v ∧ u * v ≤ hi := by
  by_cases hv : 0 ≤ v
  · have k1 := Rat.mul_le_mul_of_nonneg_right h1 hv
    have k2 := Rat.mul_le_mul_of_nonneg_right h2 hv
    exact ⟨by grind, by grind⟩
  · have hv' : 0 ≤ -v := by grind
    have k1 := Rat.mul_le_mul_of_nonneg_right h1 hv'
    have k2 := Rat.mul_le_mul_of_nonneg_right h2 hv'
    exact ⟨by grind, by grind⟩
theorem zp7 (a b c d : Rat) : (mlo a b c d ≤ a * c ∧ a * c ≤ mhi a b c d) ∧ (mlo a b c d ≤ a * d ∧ a * d ≤ mhi a b c d) ∧ (mlo a b c d ≤ b * c ∧ b * c ≤ mhi a b c d) ∧ (mlo a b c d ≤ b * d ∧ b * d ≤ mhi a b c d) := by
  unfold mlo mhi
  have l1 := q1E (lsQ (lsQ (a * c) (a * d)) (b * c)) (b * d)
  have l2 := ztH (lsQ (lsQ (a * c) (a * d)) (b * c)) (b * d)
  have l3 := q1E (lsQ (a * c) (a * d)) (b * c)
  have l4 := ztH (lsQ (a * c) (a * d)) (b * c)
  have l5 := q1E (a * c) (a * d)
  have l6 := ztH (a * c) (a * d)
  have g1 := ziL (gtQ (gtQ (a * c) (a * d)) (b * c)) (b * d)
  have g2 := zdR (gtQ (gtQ (a * c) (a * d)) (b * c)) (b * d)
  have g3 := ziL (gtQ (a * c) (a * d)) (b * c)
  have g4 := zdR (gtQ (a * c) (a * d)) (b * c)
  have g5 := ziL (a * c) (a * d)
  have g6 := zdR (a * c) (a * d)
  generalize lsQ (lsQ (lsQ (a * c) (a * d)) (b * c)) (b * d) = L at *
  generalize gtQ (gtQ (gtQ (a * c) (a * d)) (b * c)) (b * d) = G at *
  generalize lsQ (lsQ (a * c) (a * d)) (b * c) = L1 at *
  generalize gtQ (gtQ (a * c) (a * d)) (b * c) = G1 at *
  generalize lsQ (a * c) (a * d) = L2 at *
  generalize gtQ (a * c) (a * d) = G2 at *
  generalize a * c = p at *
  generalize a * d = q at *
  generalize b * c = r at *
  generalize b * d = s at *
  refine ⟨⟨?_, ?_⟩, ⟨?_, ?_⟩, ⟨?_, ?_⟩, ⟨?_, ?_⟩⟩ <;> grind
theorem zq2 (a b c d : Rat) : mlo a b c d ≤ mhi a b c d := Rat.le_trans (zp7 a b c d).1.1 (zp7 a b c d).1.2
theorem ziG {x y : Rat × Rat} {u v : Rat} (hu : inI u x) (hv : inI v y) : inI (u * v) (mulI x y) := by
  obtain ⟨a, b⟩ := x
  obtain ⟨c, d⟩ := y
  obtain ⟨k1, k2, k3, k4⟩ := zp7 a b c d
  unfold inI at hu hv
  simp only at hu hv
  have t : ∀ w : Rat, (mlo a b c d ≤ w * c ∧ w * c ≤ mhi a b c d) → (mlo a b c d ≤ w * d ∧ w * d ≤ mhi a b c d) → mlo a b c d ≤ w * v ∧ w * v ≤ mhi a b c d := fun w h1 h2 => by
    rw [Rat.mul_comm w v]
    exact ztE hv.1 hv.2 (by rw [Rat.mul_comm c w]; exact h1) (by rw [Rat.mul_comm d w]; exact h2)
  have := ztE hu.1 hu.2 (t a k1 k2) (t b k3 k4)
  unfold mulI inI
  simp only
  rw [zoQ (zq2 a b c d), zoW (zq2 a b c d)]
  exact this
theorem zy7 {x y : Rat × Rat} {u v : Rat} (hu : inI u x) (hv : inI v y) : inI (u + v) (addI x y) := by
  have h1 := q1E x.1 x.2
  have h2 := zdR x.1 x.2
  have h3 := q1E y.1 y.2
  have h4 := zdR y.1 y.2
  unfold inI addI at *
  simp only
  exact ⟨by grind, by grind⟩
def ordI (x : Rat × Rat) : Prop := x.1 ≤ x.2
theorem zu7 (x y : Rat × Rat) : ordI (mulI x y) := Rat.le_trans (q1E _ _) (ziL _ _)
theorem zu8 (x y : Rat × Rat) : ordI (addI x y) := by
  have h1 := Rat.le_trans (q1E x.1 x.2) (ziL x.1 x.2)
  have h2 := Rat.le_trans (q1E y.1 y.2) (ziL y.1 y.2)
  unfold ordI addI
  simp only
  grind
theorem zw7 {u : Rat} {x y : Rat × Rat} (h : inI u x) (hs : subI x y) : inI u y := ⟨Rat.le_trans hs.1 h.1, Rat.le_trans h.2 hs.2⟩
theorem zvF {x y x' y' : Rat × Rat} (ox : ordI x) (oy : ordI y) (hx : subI x x') (hy : subI y y') : subI (mulI x y) (mulI x' y') := by
  have hl : ∀ w, w = x.1 ∨ w = x.2 → inI w x' := fun w h => by
    refine zw7 (x := x) ?_ hx
    rcases h with rfl | rfl
    · exact ⟨Rat.le_refl, ox⟩
    · exact ⟨ox, Rat.le_refl⟩
  have hr : ∀ w, w = y.1 ∨ w = y.2 → inI w y' := fun w h => by
    refine zw7 (x := y) ?_ hy
    rcases h with rfl | rfl
    · exact ⟨Rat.le_refl, oy⟩
    · exact ⟨oy, Rat.le_refl⟩
  obtain ⟨a, b⟩ := x
  obtain ⟨c, d⟩ := y
  have q1 := ziG (hl a (.inl rfl)) (hr c (.inl rfl))
  have q2 := ziG (hl a (.inl rfl)) (hr d (.inr rfl))
  have q3 := ziG (hl b (.inr rfl)) (hr c (.inl rfl))
  have q4 := ziG (hl b (.inr rfl)) (hr d (.inr rfl))
  have e : mulI (a, b) (c, d) = (mlo a b c d, mhi a b c d) := by
    unfold mulI
    simp only
    rw [zoQ (zq2 a b c d), zoW (zq2 a b c d)]
  rw [e]
  exact ⟨zyR (zyR (zyR q1.1 q2.1) q3.1) q4.1, zyX (zyX (zyX q1.2 q2.2) q3.2) q4.2⟩
theorem zv9 {x y x' y' : Rat × Rat} (ox : ordI x) (oy : ordI y) (hx : subI x x') (hy : subI y y') : subI (addI x y) (addI x' y') := by
  have h1 := q1E x'.1 x'.2
  have h2 := zdR x'.1 x'.2
  have h3 := q1E y'.1 y'.2
  have h4 := zdR y'.1 y'.2
  unfold subI addI ordI at *
  simp only
  rw [zoQ ox, zoQ oy, zoW ox, zoW oy]
  exact ⟨by grind, by grind⟩
theorem zrB {bx : Nat → Rat × Rat} {ρ : Nat → Rat} {x : Rat × Rat} {u : Rat} (hu : inI u x) : ∀ cs : List P, (∀ c ∈ cs, inI (c.ev ρ) (c.encl bx)) → inI (P.evs ρ u cs) (P.encls bx x cs)
  | [], _ => by rw [P.encls, P.evs]; exact ⟨Rat.le_refl, Rat.le_refl⟩
  | [c], h => by
    rw [qzI, P.evs, P.evs]
    have : c.ev ρ + u * 0 = c.ev ρ := by grind
    rw [this]
    exact h c (by simp)
  | c :: d :: cs, h => by
    have ih := zrB (bx := bx) (ρ := ρ) hu (d :: cs) fun c hc => h c (by simp only [List.mem_cons] at hc ⊢; exact .inr hc)
    have := zy7 (ziG ih hu) (h c (by simp))
    rw [qvW _ _ _ (by simp)]
    have e2 : P.evs ρ u (c :: d :: cs) = P.evs ρ u (d :: cs) * u + c.ev ρ := by rw [P.evs]; grind
    rw [e2]
    exact this
theorem zy0 {bx : Nat → Rat × Rat} {ρ : Nat → Rat} : ∀ (L : Nat) (p : P), P.C L p → (∀ i, 1 ≤ i → i ≤ L → inI (ρ i) (bx i)) → inI (p.ev ρ) (p.encl bx) := by
  intro L
  induction L using Nat.strongRecOn with
  | _ L ih =>
    intro p hC hb
    cases p with
    | k c => rw [P.encl, P.ev]; exact ⟨Rat.le_refl, Rat.le_refl⟩
    | p lv cs =>
      rw [P.C] at hC
      rw [P.encl, P.ev]
      exact zrB (hb lv hC.1 hC.2.1) cs fun c hc => ih (lv - 1) (by omega) c (qtF hC.2.2.2.1 c hc) fun i h1 h2 => hb i h1 (by omega)
theorem zo0 {bx by' : Nat → Rat × Rat} {x y : Rat × Rat} (ox : ordI x) (hx : subI x y) : ∀ cs : List P, (∀ c ∈ cs, ordI (c.encl bx) ∧ subI (c.encl bx) (c.encl by')) → ordI (P.encls bx x cs) ∧ subI (P.encls bx x cs) (P.encls by' y cs)
  | [], _ => by simp only [P.encls]; exact ⟨Rat.le_refl, Rat.le_refl, Rat.le_refl⟩
  | [c], h => by rw [qzI, qzI]; exact h c (by simp)
  | c :: d :: cs, h => by
    have ih := zo0 ox hx (d :: cs) fun c hc => h c (by simp only [List.mem_cons] at hc ⊢; exact .inr hc)
    have hc := h c (by simp)
    rw [qvW bx x c (cs := d :: cs) (by simp), qvW by' y c (cs := d :: cs) (by simp)]
    exact ⟨zu8 _ _, zv9 (zu7 _ _) hc.1 (zvF ih.1 ox ih.2 hx) hc.2⟩
theorem zvR {bx by' : Nat → Rat × Rat} : ∀ (L : Nat) (p : P), P.C L p → (∀ i, 1 ≤ i → i ≤ L → ordI (bx i) ∧ subI (bx i) (by' i)) → ordI (p.encl bx) ∧ subI (p.encl bx) (p.encl by') := by
  intro L
  induction L using Nat.strongRecOn with
  | _ L ih =>
    intro p hC hb
    cases p with
    | k c => rw [P.encl, P.encl]; exact ⟨Rat.le_refl, Rat.le_refl, Rat.le_refl⟩
    | p lv cs =>
      rw [P.C] at hC
      rw [P.encl, P.encl]
      have := hb lv hC.1 hC.2.1
      exact zo0 this.1 this.2 cs fun c hc => ih (lv - 1) (by omega) c (qtF hC.2.2.2.1 c hc) fun i h1 h2 => hb i h1 (by omega)
open Go.Proofs.Tryz (prog)
inductive ql2 where
 | c0 (i : qaI) (a : qaJ)
def qhU : Nat → ql2 → Option Bool
 | 0, _ => none
 | K + 1, .c0 i a =>
  (qkA K i.Lo i.Hi).bind fun x1 =>
  (qo6 K x1 a).bind fun x3 =>
  bif (decide (x3 ≤ (0 : Int))) then
   (qg2 K i.Lo i.Hi).bind fun x6 =>
   (qo6 K a x6).bind fun x8 =>
   some (decide (x8 ≤ (0 : Int)))
  else
   some false
def qiU (K : Nat) (i : qaI) (a : qaJ) : Option Bool := qhU K (.c0 i a)
noncomputable def q16 : Code := qcS prog 20
noncomputable def q3S : ql2 → List Fr
 | .c0 .. => [.code q16]
def q48 : ql2 → St
 | .c0 i a => St.init [(TV.agg (qaN i)), (TV.agg (qaB a))]
def qw0 (cx : Cx) (c : ql2) (r : Bool) : Prop := Wk prog cx (qd8 prog 20 [[0]] (TV.c (T.bool r))) (q3S c) .normal (q48 c)
abbrev qw1 (K : Nat) : Prop := ∀ c r, qhU K c = some r → ∀ cx : Cx, cx.n = 23 → qw0 cx c r
theorem q49 {K} (_ : qw1 K) {cx} (hn : cx.n = 23) {i a} {r} (h : qhU (K + 1) (.c0 i a) = some r) : qw0 cx (.c0 i a) r := by
 rw [qhU] at h
 obtain ⟨x1, h2, h⟩ := qaU h
 obtain ⟨x3, h4, h⟩ := qaU h
 rcases qa0 h with ⟨h5, h⟩ | ⟨h5, h⟩
 ·obtain ⟨x6, h7, h⟩ := qaU h
  obtain ⟨x8, h9, h⟩ := qaU h
  have h := oinj h; subst h
  exact wkR [rg3, .draw [.p, .p, .p, .p, (.call [[0,1,1], [0,1,1]] [(TV.agg (qaB i.Lo)), (TV.agg (qaB i.Hi))] (TV.agg (qaB x1))), .p, (.call [[0,1,1], [0,1,1]] [(TV.agg (qaB x1)), (TV.agg (qaB a))] (ti .i64 x3)), .p, .p, (.ga true .p), (.ga true .p), (.ga true .p), (.ga true .p), (.ga true .p), (.ga true (.call [[0,1,1], [0,1,1]] [(TV.agg (qaB i.Lo)), (TV.agg (qaB i.Hi))] (TV.agg (qaB x6)))), (.ga true (.call [[0,1,1], [0,1,1]] [(TV.agg (qaB a)), (TV.agg (qaB x6))] (ti .i64 x8))), (.ga true .p), (.pk true), .p] []] hn (aC (qhS h2) <| aC (qhL h4) <| aC h5 <| aC h5 <| aC h5 <| aC h5 <| aC h5 <| aC h5 <| aC (qhN h7) <| aC h5 <| aC (qhL h9) <| aC h5 <| aC h5 <| aN)
 ·have h := oinj h; subst h
  exact wkR [rg3, .draw [.p, .p, .p, .p, (.call [[0,1,1], [0,1,1]] [(TV.agg (qaB i.Lo)), (TV.agg (qaB i.Hi))] (TV.agg (qaB x1))), .p, (.call [[0,1,1], [0,1,1]] [(TV.agg (qaB x1)), (TV.agg (qaB a))] (ti .i64 x3)), .p, .p, (.ga false .p), (.ga false .p), (.ga false .p), (.ga false .p), (.ga false .p), (.ga false .p), (.ga false .p), (.ga false .p), (.pk false), .p] []] hn (aC (qhS h2) <| aC (qhL h4) <| aC h5 <| aC h5 <| aC h5 <| aC h5 <| aC h5 <| aC h5 <| aC h5 <| aC h5 <| aC h5 <| aN)
theorem quO : ∀ K : Nat, qw1 K
 | 0, c, r, h => by rw [qhU] at h; cases h
 | K + 1, .c0 .., r, h => fun cx hn => q49 (quO K) hn h
theorem qhO {K : Nat} {i : qaI} {a : qaJ} {r : Bool} (h : qiU K i a = some r) : qc7 prog 20 [(TV.agg (qaN i)), (TV.agg (qaB a))] (TV.c (T.bool r)) :=
 qbL [[0]] (by kernel_rfl) (by simp) fun cx hn => quO K (.c0 i a) r h cx hn
open Go.Proofs.Tryz (prog)
inductive qq8 where
 | c0 (a : qaJ)
def qmU : Nat → qq8 → Option qaJ
 | 0, _ => none
 | K + 1, .c0 a =>
  (q0C K a.Num).bind fun x1 =>
  (qj5 K x1 a.Den).bind fun x3 =>
  some x3
def qxL (K : Nat) (a : qaJ) : Option qaJ := qmU K (.c0 a)
noncomputable def zb6 : Code := qcS prog 55
noncomputable def zfE : qq8 → List Fr
 | .c0 .. => [.code zb6]
def zhV : qq8 → St
 | .c0 a => St.init [(TV.agg (qaB a))]
def q51 (cx : Cx) (c : qq8) (r : qaJ) : Prop := Wk prog cx (qd8 prog 55 [[0,1,1]] (TV.agg (qaB r))) (zfE c) .normal (zhV c)
abbrev q52 (K : Nat) : Prop := ∀ c r, qmU K c = some r → ∀ cx : Cx, cx.n = 9 → q51 cx c r
theorem zhX {K} (_ : q52 K) {cx} (hn : cx.n = 9) {a} {r} (h : qmU (K + 1) (.c0 a) = some r) : q51 cx (.c0 a) r := by
 rw [qmU] at h
 obtain ⟨x1, h2, h⟩ := qaU h
 obtain ⟨x3, h4, h⟩ := qaU h
 have h := oinj h; subst h
 exact wkR [rg2, .draw [.p, .p, (.call [[0,1]] [(TV.agg (qaK a.Num))] (TV.agg (qaK x1))), .p, .p] [opI (.call [[0,1], [1]] [(TV.agg (qaK x1)), (TV.c (T.sl 1 (a.Den.map qaF)))] (TV.agg (qaB x3))), .op .p]] hn (aC (zc3 h2) <| aC (qiR h4) <| aN)
theorem q05 : ∀ K : Nat, q52 K
 | 0, c, r, h => by rw [qmU] at h; cases h
 | K + 1, .c0 .., r, h => fun cx hn => zhX (q05 K) hn h
theorem q8Y {K : Nat} {a : qaJ} {r : qaJ} (h : qxL K a = some r) : qc7 prog 55 [(TV.agg (qaB a))] (TV.agg (qaB r)) :=
 qbL [[0,1,1]] (by kernel_rfl) (by simp) fun cx hn => q05 K (.c0 a) r h cx hn
open Go.Proofs.Tryz (prog)
inductive qq3 where
 | c0 (a : qaJ) (b : qaJ)
def qmO : Nat → qq3 → Option qaJ
 | 0, _ => none
 | K + 1, .c0 a b =>
  (qw2 K b.Num).bind fun x1 =>
  (qfC K a (qaJ.mk x1 b.Den)).bind fun x3 =>
  some x3
def qgZ (K : Nat) (a : qaJ) (b : qaJ) : Option qaJ := qmO K (.c0 a b)
noncomputable def zbV : Code := qcS prog 15
noncomputable def ze4 : qq3 → List Fr
 | .c0 .. => [.code zbV]
def zhJ : qq3 → St
 | .c0 a b => St.init [(TV.agg (qaB a)), (TV.agg (qaB b))]
def q5R (cx : Cx) (c : qq3) (r : qaJ) : Prop := Wk prog cx (qd8 prog 15 [[0,1,1]] (TV.agg (qaB r))) (ze4 c) .normal (zhJ c)
abbrev q5S (K : Nat) : Prop := ∀ c r, qmO K c = some r → ∀ cx : Cx, cx.n = 13 → q5R cx c r
theorem zhK {K} (_ : q5S K) {cx} (hn : cx.n = 13) {a b} {r} (h : qmO (K + 1) (.c0 a b) = some r) : q5R cx (.c0 a b) r := by
 rw [qmO] at h
 obtain ⟨x1, h2, h⟩ := qaU h
 obtain ⟨x3, h4, h⟩ := qaU h
 have h := oinj h; subst h
 exact wkR [rg3, .draw [.p, .p, .p, (.call [[0,1]] [(TV.agg (qaK b.Num))] (TV.agg (qaK x1))), .p, .p, .p] [opI (.call [[0,1,1], [0,1,1]] [(TV.agg (qaB a)), (TV.agg (qaB (qaJ.mk x1 b.Den)))] (TV.agg (qaB x3))), .op .p]] hn (aC (qzH h2) <| aC (qeC h4) <| aN)
theorem q0Z : ∀ K : Nat, q5S K
 | 0, c, r, h => by rw [qmO] at h; cases h
 | K + 1, .c0 .., r, h => fun cx hn => zhK (q0Z K) hn h
theorem qfM {K : Nat} {a : qaJ} {b : qaJ} {r : qaJ} (h : qgZ K a b = some r) : qc7 prog 15 [(TV.agg (qaB a)), (TV.agg (qaB b))] (TV.agg (qaB r)) :=
 qbL [[0,1,1]] (by kernel_rfl) (by simp) fun cx hn => q0Z K (.c0 a b) r h cx hn
open Go.Proofs.Tryz (prog)
inductive qoV where
 | c0 (i : qaI)
def qkR : Nat → qoV → Option qaJ
 | 0, _ => none
 | K + 1, .c0 i =>
  (qgZ K i.Hi i.Lo).bind fun x1 =>
  (qxL K x1).bind fun x3 =>
  some x3
def qf1 (K : Nat) (i : qaI) : Option qaJ := qkR K (.c0 i)
noncomputable def q7N : Code := qcS prog 13
noncomputable def q9Y : qoV → List Fr
 | .c0 .. => [.code q7N]
def zcQ : qoV → St
 | .c0 i => St.init [(TV.agg (qaN i))]
def q1I (cx : Cx) (c : qoV) (r : qaJ) : Prop := Wk prog cx (qd8 prog 13 [[0,1,1]] (TV.agg (qaB r))) (q9Y c) .normal (zcQ c)
abbrev q1J (K : Nat) : Prop := ∀ c r, qkR K c = some r → ∀ cx : Cx, cx.n = 9 → q1I cx c r
theorem zcS {K} (_ : q1J K) {cx} (hn : cx.n = 9) {i} {r} (h : qkR (K + 1) (.c0 i) = some r) : q1I cx (.c0 i) r := by
 rw [qkR] at h
 obtain ⟨x1, h2, h⟩ := qaU h
 obtain ⟨x3, h4, h⟩ := qaU h
 have h := oinj h; subst h
 exact wkR [rg2, rgG [oo, oo, oo, oo, opI (.call [[0,1,1], [0,1,1]] [(TV.agg (qaB i.Hi)), (TV.agg (qaB i.Lo))] (TV.agg (qaB x1))), opI (.call [[0,1,1]] [(TV.agg (qaB x1))] (TV.agg (qaB x3))), oo]] hn (aC (qfM h2) <| aC (q8Y h4) <| aN)
theorem qxU : ∀ K : Nat, q1J K
 | 0, c, r, h => by rw [qkR] at h; cases h
 | K + 1, .c0 .., r, h => fun cx hn => zcS (qxU K) hn h
theorem qfJ {K : Nat} {i : qaI} {r : qaJ} (h : qf1 K i = some r) : qc7 prog 13 [(TV.agg (qaN i))] (TV.agg (qaB r)) :=
 qbL [[0,1,1]] (by kernel_rfl) (by simp) fun cx hn => qxU K (.c0 i) r h cx hn
open Go.Proofs.Tryz (prog)
inductive qnP where
 | c0 (i : qaI) (j : qaI)
def qjQ : Nat → qnP → Option Bool
 | 0, _ => none
 | K + 1, .c0 i j =>
  (qiU K (qaI.mk j.Lo j.Hi) i.Lo).bind fun x1 =>
  bif x1 then
   (qiU K (qaI.mk j.Lo j.Hi) i.Hi).bind fun x4 =>
   some x4
  else
   some false
def qpD (K : Nat) (i : qaI) (j : qaI) : Option Bool := qjQ K (.c0 i j)
noncomputable def q45 : Code := qcS prog 19
noncomputable def q7M : qnP → List Fr
 | .c0 .. => [.code q45]
def q9V : qnP → St
 | .c0 i j => St.init [(TV.agg (qaN i)), (TV.agg (qaN j))]
def qzD (cx : Cx) (c : qnP) (r : Bool) : Prop := Wk prog cx (qd8 prog 19 [[0]] (TV.c (T.bool r))) (q7M c) .normal (q9V c)
abbrev qzE (K : Nat) : Prop := ∀ c r, qjQ K c = some r → ∀ cx : Cx, cx.n = 15 → qzD cx c r
theorem q9X {K} (_ : qzE K) {cx} (hn : cx.n = 15) {i j} {r} (h : qjQ (K + 1) (.c0 i j) = some r) : qzD cx (.c0 i j) r := by
 rw [qjQ] at h
 obtain ⟨x1, h2, h⟩ := qaU h
 rcases qa0 h with ⟨h3, h⟩ | ⟨h3, h⟩
 ·obtain ⟨x4, h5, h⟩ := qaU h
  have h := oinj h; subst h
  exact wkR [rg3, rgG [oo, oo, oo, opI (.call [[0,1,1,0,1,1], [0,1,1]] [(TV.agg (qaN (qaI.mk j.Lo j.Hi))), (TV.agg (qaB i.Lo))] (TV.c (T.bool x1))), oo, .sb 9 true, oo, oo, oo, opI (.call [[0,1,1,0,1,1], [0,1,1]] [(TV.agg (qaN (qaI.mk j.Lo j.Hi))), (TV.agg (qaB i.Hi))] (TV.c (T.bool x4))), oo, oo]] hn (aC (qhO h2) <| aC h3 <| aC (qhO h5) <| aN)
 ·have h := oinj h; subst h
  exact wkR [rg3, rgG [oo, oo, oo, opI (.call [[0,1,1,0,1,1], [0,1,1]] [(TV.agg (qaN (qaI.mk j.Lo j.Hi))), (TV.agg (qaB i.Lo))] (TV.c (T.bool x1))), oo, .sb 9 false, oo, oo, oo, oo, oo, oo]] hn (aC (qhO h2) <| aC h3 <| aN)
theorem qwY : ∀ K : Nat, qzE K
 | 0, c, r, h => by rw [qjQ] at h; cases h
 | K + 1, .c0 .., r, h => fun cx hn => q9X (qwY K) hn h
theorem ql1 {K : Nat} {i : qaI} {j : qaI} {r : Bool} (h : qpD K i j = some r) : qc7 prog 19 [(TV.agg (qaN i)), (TV.agg (qaN j))] (TV.c (T.bool r)) :=
 qbL [[0]] (by kernel_rfl) (by simp) fun cx hn => qwY K (.c0 i j) r h cx hn
open Go.Proofs.Tryz (prog)
inductive qq5 where
 | c0 (a : qaJ) (b : qaJ)
def qmQ : Nat → qq5 → Option qaJ
 | 0, _ => none
 | K + 1, .c0 a b =>
  (qfC K a b).bind fun x1 =>
  (qlQ K (1 : Int)).bind fun x3 =>
  (qp1 K (2 : Int)).bind fun x5 =>
  (qc8 K x1 (qaJ.mk x3 x5)).bind fun x7 =>
  some x7
def qh2 (K : Nat) (a : qaJ) (b : qaJ) : Option qaJ := qmQ K (.c0 a b)
noncomputable def zbX : Code := qcS prog 16
noncomputable def ze7 : qq5 → List Fr
 | .c0 .. => [.code zbX]
def zhO : qq5 → St
 | .c0 a b => St.init [(TV.agg (qaB a)), (TV.agg (qaB b))]
def q5V (cx : Cx) (c : qq5) (r : qaJ) : Prop := Wk prog cx (qd8 prog 16 [[0,1,1]] (TV.agg (qaB r))) (ze7 c) .normal (zhO c)
abbrev q5W (K : Nat) : Prop := ∀ c r, qmQ K c = some r → ∀ cx : Cx, cx.n = 12 → q5V cx c r
theorem zhQ {K} (_ : q5W K) {cx} (hn : cx.n = 12) {a b} {r} (h : qmQ (K + 1) (.c0 a b) = some r) : q5V cx (.c0 a b) r := by
 rw [qmQ] at h
 obtain ⟨x1, h2, h⟩ := qaU h
 obtain ⟨x3, h4, h⟩ := qaU h
 obtain ⟨x5, h6, h⟩ := qaU h
 obtain ⟨x7, h8, h⟩ := qaU h
 have h := oinj h; subst h
 exact wkR [rg3, rgG [oo, oo, opI (.call [[0,1,1], [0,1,1]] [(TV.agg (qaB a)), (TV.agg (qaB b))] (TV.agg (qaB x1))), opI (.call [[0]] [(TV.c (T.int .i64 (1 : Int)))] (TV.agg (qaK x3))), opI (.call [[0]] [(TV.c (T.int .u64 (2 : Int)))] (tl 1 x5 qaF)), oo, opI (.call [[0,1,1], [0,1,1]] [(TV.agg (qaB x1)), (TV.agg (qaB (qaJ.mk x3 x5)))] (TV.agg (qaB x7))), oo]] hn (aC (qeC h2) <| aC (qgR h4) <| aC (qlO h6) <| aC (qbY h8) <| aN)
theorem q01 : ∀ K : Nat, q5W K
 | 0, c, r, h => by rw [qmQ] at h; cases h
 | K + 1, .c0 .., r, h => fun cx hn => zhQ (q01 K) hn h
theorem qgG {K : Nat} {a : qaJ} {b : qaJ} {r : qaJ} (h : qh2 K a b = some r) : qc7 prog 16 [(TV.agg (qaB a)), (TV.agg (qaB b))] (TV.agg (qaB r)) :=
 qbL [[0,1,1]] (by kernel_rfl) (by simp) fun cx hn => q01 K (.c0 a b) r h cx hn
end Go.Am.X
