/- Part 5 of the proof: P8 .. JP. -/
import Derived.Test.YteciehfkhmbfeaaEd
import Derived.Test.YteciehfkhmbfeaaEb
import Derived.RangeFuncIn
import Derived.RangeFuncRecord
import Derived.Test.YteciehfkhmbfeaaEc
import Derived.OpenShut
import Derived.Deep.Slices
import Derived.Test.YteciehfkhmbfeaaEa
import Derived.WalkKit
import Derived.ProofKit
import Derived.JoinedCond
namespace Go.Am.X
structure Mn where
  e0 : Nat
  e1 : Nat
  e2 : Nat
  e3 : Nat
deriving DecidableEq
structure Tm where
  c : Int
  m : Mn
deriving DecidableEq
def Mn.enc (m : Mn) : qa5 := ⟨m.e0, m.e1, m.e2, m.e3⟩
def Tm.enc (t : Tm) : qaH := ⟨mkI t.c, t.m.enc⟩
def Mn.ev (ρ : Nat → Rat) (m : Mn) : Rat := ρ 1 ^ m.e0 * ρ 2 ^ m.e1 * ρ 3 ^ m.e2 * ρ 4 ^ m.e3
def Tm.ev (ρ : Nat → Rat) (t : Tm) : Rat := (t.c : Rat) * t.m.ev ρ
def sumT (ρ : Nat → Rat) : List Tm → Rat
  | [] => 0
  | t :: l => t.ev ρ + sumT ρ l
def sumA : List Tm → Nat
  | [] => 0
  | t :: l => t.c.natAbs + sumA l
theorem zhA (ρ : Nat → Rat) : ∀ a b : List Tm, sumT ρ (a ++ b) = sumT ρ a + sumT ρ b
  | [], b => by rw [List.nil_append, sumT]; grind
  | t :: a, b => by rw [List.cons_append, sumT, sumT, zhA]; grind
theorem zs2 (ρ : Nat → Rat) {a b : List Tm} (h : a.Perm b) : sumT ρ a = sumT ρ b := by
  induction h with
  | nil => rfl
  | cons x _ ih => rw [sumT, sumT, ih]
  | swap x y l => simp only [sumT]; grind
  | trans _ _ h1 h2 => rw [h1, h2]
theorem zoI {a b : List Tm} (h : a.Perm b) : sumA a = sumA b := by
  induction h with
  | nil => rfl
  | cons x _ ih => rw [sumA, sumA, ih]
  | swap x y l => simp only [sumA]; omega
  | trans _ _ h1 h2 => rw [h1, h2]
theorem zq4 : ∀ {l : List Tm} {t : Tm}, t ∈ l → t.c.natAbs ≤ sumA l
  | a :: l, t, h => by
    rw [sumA]
    rcases List.mem_cons.1 h with rfl | h
    · omega
    · have := zq4 h; omega
def decT (t : qaH) : Tm := ⟨ival t.Coef, t.Exp.e0.toNat, t.Exp.e1.toNat, t.Exp.e2.toNat, t.Exp.e3.toNat⟩
theorem zrN (t : Tm) : decT t.enc = t := by
  cases t with
  | mk c m => cases m; simp [decT, Tm.enc, Mn.enc, qcY]
theorem zvL {r : List qaH} {l : List Tm} (h : r.Perm (l.map Tm.enc)) : ∃ l' : List Tm, l'.Perm l ∧ r = l'.map Tm.enc := by
  refine ⟨r.map decT, ?_, ?_⟩
  · have := h.map decT
    rw [List.map_map, show decT ∘ Tm.enc = id from funext zrN, List.map_id] at this
    exact this
  · rw [List.map_map]
    conv => lhs; rw [← List.map_id r]
    refine List.map_congr_left fun x hx => ?_
    obtain ⟨t, _, rfl⟩ := List.mem_map.1 (h.mem_iff.1 hx)
    show t.enc = (decT t.enc).enc
    rw [zrN]
def runT (m : Mn) (s : Int) : List Tm → Int × List Tm
  | [] => (s, [])
  | t :: l => if t.m = m then runT m (s + t.c) l else (s, t :: l)
theorem qxQ (m : Mn) : ∀ (l : List Tm) (s : Int), (runT m s l).2.length ≤ l.length
  | [], _ => Nat.le_refl _
  | t :: l, s => by
    rw [runT]
    split
    · have := qxQ m l (s + t.c); simp only [List.length_cons]; omega
    · exact Nat.le_refl _
def qqN : List Tm → List Tm
  | [] => []
  | t :: l => if (runT t.m t.c l).1 = 0 then qqN (runT t.m t.c l).2 else ⟨(runT t.m t.c l).1, t.m⟩ :: qqN (runT t.m t.c l).2
termination_by l => l.length
decreasing_by all_goals (have := qxQ t.m l t.c; simp only [List.length_cons]; omega)
theorem zgY (m : Mn) : ∀ (l : List Tm) (s : Int), (runT m s l).2 <:+ l
  | [], _ => List.suffix_refl _
  | t :: l, s => by
    rw [runT]
    split
    · exact (zgY m l _).trans (List.suffix_cons t l)
    · exact List.suffix_refl _
theorem ztA (ρ : Nat → Rat) (m : Mn) : ∀ (l : List Tm) (s : Int), ((runT m s l).1 : Rat) * m.ev ρ + sumT ρ (runT m s l).2 = (s : Rat) * m.ev ρ + sumT ρ l
  | [], s => rfl
  | t :: l, s => by
    rw [runT]
    split
    · rename_i h
      rw [ztA ρ m l, sumT, Tm.ev, h, Rat.intCast_add]; grind
    · rfl
theorem zgZ (m : Mn) : ∀ (l : List Tm) (s : Int), (runT m s l).1.natAbs + sumA (runT m s l).2 ≤ s.natAbs + sumA l
  | [], s => Nat.le_refl _
  | t :: l, s => by
    rw [runT]
    split
    · have := zgZ m l (s + t.c)
      rw [sumA]; omega
    · exact Nat.le_refl _
theorem zo8 (ρ : Nat → Rat) (l : List Tm) : sumT ρ (qqN l) = sumT ρ l := by
  match l with
  | [] => rw [qqN]
  | t :: l =>
    have h := ztA ρ t.m l t.c
    have hl := qxQ t.m l t.c
    have ih := zo8 ρ (runT t.m t.c l).2
    rw [qqN]
    split
    · rename_i h0
      rw [h0] at h
      rw [ih, sumT, Tm.ev, ← h]
      simp only [Rat.intCast_zero, Rat.zero_mul, Rat.zero_add]
    · rw [sumT, ih, sumT, Tm.ev, Tm.ev, ← h]
termination_by l.length
theorem zmP (l : List Tm) : sumA (qqN l) ≤ sumA l := by
  match l with
  | [] => rw [qqN]; exact Nat.le_refl _
  | t :: l =>
    have h := zgZ t.m l t.c
    have hl := qxQ t.m l t.c
    have ih := zmP (runT t.m t.c l).2
    rw [qqN]
    split
    · rw [sumA]; omega
    · rw [sumA, sumA]; show (runT t.m t.c l).1.natAbs + _ ≤ _; omega
termination_by l.length
theorem zmO (l : List Tm) : (qqN l).length ≤ l.length := by
  match l with
  | [] => rw [qqN]; exact Nat.le_refl _
  | t :: l =>
    have hl := qxQ t.m l t.c
    have ih := zmO (runT t.m t.c l).2
    rw [qqN]
    split
    · simp only [List.length_cons]; omega
    · simp only [List.length_cons]; omega
termination_by l.length
theorem zmN (l : List Tm) : ∀ t ∈ qqN l, t.c ≠ 0 ∧ ∃ s ∈ l, s.m = t.m := by
  match l with
  | [] => rw [qqN]; intro t h; cases h
  | a :: l =>
    have hl := qxQ a.m l a.c
    have hs := zgY a.m l a.c
    have ih := zmN (runT a.m a.c l).2
    intro t h
    rw [qqN] at h
    split at h
    · obtain ⟨h1, s, h2, h3⟩ := ih t h
      exact ⟨h1, s, List.mem_cons_of_mem _ (hs.subset h2), h3⟩
    · rename_i h0
      rcases List.mem_cons.1 h with rfl | h
      · exact ⟨h0, a, by simp, rfl⟩
      · obtain ⟨h1, s, h2, h3⟩ := ih t h
        exact ⟨h1, s, List.mem_cons_of_mem _ (hs.subset h2), h3⟩
termination_by l.length
theorem q80 (a b c d : Int) : Ev (fun K => qiS K [a, b, c, d]) (min (min (min a b) c) d) := by
  have w1 : wI6 ((1 : Int) + 1) = 2 := by decide
  have w2 : wI6 ((2 : Int) + 1) = 3 := by decide
  have w3 : wI6 ((3 : Int) + 1) = 4 := by decide
  refine qaT ?_
  simp only [qiS, qcQ]
  refine ev_f (by simp) (qb6 (x := a) rfl ?_)
  refine qaT ?_
  simp only [qcQ, w1]
  refine ev_t (by simp) (qb6 (x := b) rfl ?_)
  refine qaT ?_
  simp only [qcQ, w2]
  refine ev_t (by simp) (qb6 (x := c) rfl ?_)
  refine qaT ?_
  simp only [qcQ, w3]
  refine ev_t (by simp) (qb6 (x := d) rfl ?_)
  refine qaT ?_
  simp only [qcQ]
  exact ev_f (by simp) (qa3 _)
theorem zqP (s : List qaH) : Ev (fun K => qdW K s) s := by
  refine qaT ?_
  simp only [qdW, qdJ]
  refine qhC (by omega) (qeQ (qa3 _) ?_)
  rw [Int.toNat_natCast, List.take_length]
theorem zxS (a b : Mn) : (decide (a.enc.e0 = b.enc.e0) && (decide (a.enc.e1 = b.enc.e1) && (decide (a.enc.e2 = b.enc.e2) && decide (a.enc.e3 = b.enc.e3)))) = decide (a = b) := by
  rw [Bool.eq_iff_iff]
  cases a; cases b
  simp only [Mn.enc, Bool.and_eq_true, decide_eq_true_eq, Mn.mk.injEq, Int.ofNat_inj]
theorem zmJ {l rest : List Tm} {t : Tm} (h : (t :: rest) <:+ l) : gi (l.map Tm.enc) ((l.length - (t :: rest).length : Nat) : Int) = some t.enc := by
  obtain ⟨pre, rfl⟩ := h
  refine za3 ?_
  rw [List.length_append, Nat.add_sub_cancel, List.getElem?_map, List.getElem?_append_right (Nat.le_refl _), Nat.sub_self]
  rfl
theorem zgW {l rest : List Tm} {t : Tm} (h : (t :: rest) <:+ l) : rest <:+ l := (List.suffix_cons t rest).trans h
theorem zq5 {l rest : List Tm} {t : Tm} (h : (t :: rest) <:+ l) (hl : l.length ≤ 1000000000) : wI6 (((l.length - (t :: rest).length : Nat) : Int) + 1) = ((l.length - rest.length : Nat) : Int) := by
  have := h.length_le
  simp only [List.length_cons] at this ⊢
  rw [qdB (by omega)]; omega
theorem zrE {l : List Tm} {m : Mn} {n : Nat} (hn : n ≤ 1000000) (hl : l.length ≤ 1000000000) (r68 : List qaH) {r : List qaH} : ∀ (rest : List Tm) (s : Int), rest <:+ l → ((s.natAbs + sumA rest : Nat) : Int) < 4294967296 ^ n →
    Ev (fun K => qaW K (.c11 ⟨mkI (runT m s rest).1, m.enc⟩ (l.map Tm.enc) r68 ((l.length - (runT m s rest).2.length : Nat) : Int))) r →
    Ev (fun K => qaW K (.c10 ⟨mkI s, m.enc⟩ (l.map Tm.enc) r68 ((l.length - rest.length : Nat) : Int))) r
  | [], s, hs, hb, h => by
    refine qaT ?_
    simp only [qaW]
    refine ev_f (by simp) h
  | t :: rest, s, hs, hb, h => by
    have hlen := hs.length_le
    simp only [List.length_cons] at hlen
    refine qaT ?_
    simp only [qaW]
    refine ev_t (by simp; omega) (qb6 (zmJ hs) ?_)
    simp only [zq5 hs hl]
    have he := zxS t.m m
    rw [sumA] at hb
    rw [runT] at h
    by_cases e : t.m = m
    · rw [if_pos e] at h
      rw [decide_eq_true e] at he
      refine ev_t he (qb6 (zmJ hs) ?_)
      have sa := qrH (c := s) (n := n) (by omega) hn
      have sb := qrH (c := t.c) (n := n) (by omega) hn
      have h1 := qn0 sa.1 sb.1 (by have := sa.2; omega) (by have := sb.2; omega)
      rw [qcY, qcY] at h1
      exact qaP h1 (zrE hn hl r68 rest (s + t.c) (zgW hs) (by omega) h)
    · rw [if_neg e] at h
      rw [decide_eq_false e] at he
      exact ev_f he h
theorem zqD {l : List Tm} {n : Nat} (hn : n ≤ 1000000) (hl : l.length ≤ 1000000000) (rest : List Tm) (acc : List Tm) (hs : rest <:+ l) (hb : ((sumA rest : Nat) : Int) < 4294967296 ^ n) (hacc : acc.length + rest.length ≤ 1000000000) :
    Ev (fun K => qaW K (.c9 (l.map Tm.enc) (acc.map Tm.enc) ((l.length - rest.length : Nat) : Int))) ((acc ++ qqN rest).map Tm.enc) := by
  match rest with
  | [] =>
    refine qaT ?_
    simp only [qaW]
    rw [qqN, List.append_nil]
    exact ev_f (by simp) (qaP (zqP _) (qa3 _))
  | t :: rest =>
    have hlen := hs.length_le
    have hrl := qxQ t.m rest t.c
    have hra := zgZ t.m rest t.c
    simp only [List.length_cons] at hlen hacc
    rw [sumA] at hb
    have hz : mkI 0 = qaG.mk false [] := q3T
    refine qaT ?_
    simp only [qaW]
    refine ev_t (by simp; omega) (qb6 (zmJ hs) ?_)
    rw [← hz]
    have hrun : runT t.m 0 (t :: rest) = runT t.m t.c rest := by rw [runT, if_pos rfl, Int.zero_add]
    refine zrE hn hl _ (t :: rest) 0 hs (by rw [sumA]; omega) ?_
    rw [hrun]
    have hs' : (runT t.m t.c rest).2 <:+ l := (zgY t.m rest t.c).trans (zgW hs)
    refine qaT ?_
    simp only [qaW]
    have sa := qrH (c := (runT t.m t.c rest).1) (n := n) (by omega) hn
    have h1 := qhB sa.1 (by have := sa.2; omega)
    rw [qcY] at h1
    refine qaP h1 ?_
    have := qkI (runT t.m t.c rest).1 0
    rw [qqN]
    by_cases e : (runT t.m t.c rest).1 = 0
    · rw [if_pos e]
      refine ev_f (by simp; omega) ?_
      exact zqD hn hl _ acc hs' (by omega) (by omega)
    · rw [if_neg e]
      refine ev_t (by simp; omega) (qhC (by simp; omega) ?_)
      have := zqD hn hl _ (acc ++ [⟨(runT t.m t.c rest).1, t.m⟩]) hs' (by omega) (by simp; omega)
      rw [List.map_append, List.append_assoc] at this
      exact this
termination_by rest.length
theorem ztJ {l : List Tm} {m : Mn} {n : Nat} (hn : n ≤ 1000000) (hl : l.length ≤ 1000000000) {r : List qaH} : ∀ (rest : List Tm) (s : Int), rest <:+ l → ((s.natAbs + sumA rest : Nat) : Int) < 4294967296 ^ n →
    Ev (fun K => qaW K (.c8 ⟨mkI (runT m s rest).1, m.enc⟩ (l.map Tm.enc) ((l.length - (runT m s rest).2.length : Nat) : Int))) r →
    Ev (fun K => qaW K (.c7 ⟨mkI s, m.enc⟩ (l.map Tm.enc) ((l.length - rest.length : Nat) : Int))) r
  | [], s, hs, hb, h => by
    refine qaT ?_
    simp only [qaW]
    refine ev_f (by simp) h
  | t :: rest, s, hs, hb, h => by
    have hlen := hs.length_le
    simp only [List.length_cons] at hlen
    refine qaT ?_
    simp only [qaW]
    refine ev_t (by simp; omega) (qb6 (zmJ hs) ?_)
    simp only [zq5 hs hl]
    have he := zxS t.m m
    rw [sumA] at hb
    rw [runT] at h
    by_cases e : t.m = m
    · rw [if_pos e] at h
      rw [decide_eq_true e] at he
      refine ev_t he (qb6 (zmJ hs) ?_)
      have sa := qrH (c := s) (n := n) (by omega) hn
      have sb := qrH (c := t.c) (n := n) (by omega) hn
      have h1 := qn0 sa.1 sb.1 (by have := sa.2; omega) (by have := sb.2; omega)
      rw [qcY, qcY] at h1
      exact qaP h1 (ztJ hn hl rest (s + t.c) (zgW hs) (by omega) h)
    · rw [if_neg e] at h
      rw [decide_eq_false e] at he
      exact ev_f he h
theorem ztK {l : List Tm} {n : Nat} (hn : n ≤ 1000000) (hl : l.length ≤ 1000000000) (rest : List Tm) (hs : rest <:+ l) (hb : ((sumA rest : Nat) : Int) < 4294967296 ^ n) :
    Ev (fun K => qaW K (.c6 (l.map Tm.enc) ((l.length - rest.length : Nat) : Int))) ((qqN rest).map Tm.enc) := by
  match rest with
  | [] =>
    refine qaT ?_
    simp only [qaW]
    rw [qqN]
    exact ev_f (by simp) (qaP (zqP _) (qa3 _))
  | t :: rest =>
    have hlen := hs.length_le
    have hrl := qxQ t.m rest t.c
    have hra := zgZ t.m rest t.c
    simp only [List.length_cons] at hlen
    rw [sumA] at hb
    have hz : mkI 0 = qaG.mk false [] := q3T
    refine qaT ?_
    simp only [qaW]
    refine ev_t (by simp; omega) (qb6 (zmJ hs) ?_)
    rw [← hz]
    have hrun : runT t.m 0 (t :: rest) = runT t.m t.c rest := by rw [runT, if_pos rfl, Int.zero_add]
    refine ztJ hn hl (t :: rest) 0 hs (by rw [sumA]; omega) ?_
    rw [hrun]
    have hs' : (runT t.m t.c rest).2 <:+ l := (zgY t.m rest t.c).trans (zgW hs)
    refine qaT ?_
    simp only [qaW]
    have sa := qrH (c := (runT t.m t.c rest).1) (n := n) (by omega) hn
    have h1 := qhB sa.1 (by have := sa.2; omega)
    rw [qcY] at h1
    refine qaP h1 ?_
    have := qkI (runT t.m t.c rest).1 0
    rw [qqN]
    by_cases e : (runT t.m t.c rest).1 = 0
    · rw [if_pos e]
      refine ev_f (by simp; omega) ?_
      exact ztK hn hl _ hs' (by omega)
    · rw [if_neg e]
      refine ev_t (by simp; omega) ?_
      exact zqD hn hl _ [⟨(runT t.m t.c rest).1, t.m⟩] hs' (by omega) (by simp; omega)
termination_by rest.length
structure zzL (l out : List Tm) : Prop where
  ev : ∀ ρ, sumT ρ out = sumT ρ l
  abs : sumA out ≤ sumA l
  len : out.length ≤ l.length
  mem : ∀ t ∈ out, t.c ≠ 0 ∧ ∃ s ∈ l, s.m = t.m
theorem ztL {l : List Tm} {n : Nat} (hn : n ≤ 1000000) (hl : l.length ≤ 1000000000) (hb : ((sumA l : Nat) : Int) < 4294967296 ^ n) : ∀ (d i : Nat), i + d = l.length →
    ∃ out, Ev (fun K => qaW K (.c5 ((l.take i).map Tm.enc) (l.map Tm.enc) (l.length : Int) (i : Int))) (out.map Tm.enc) ∧ zzL l out
  | 0, i, hi => by
    obtain ⟨r, h1, h2⟩ := zyS (row := l.map Tm.enc) (by rw [List.length_map]; omega)
    obtain ⟨l', hp, rfl⟩ := zvL h2
    refine ⟨qqN l', ?_, ⟨fun ρ => by rw [zo8, zs2 ρ hp], by rw [← zoI hp]; exact zmP l', by rw [← hp.length_eq]; exact zmO l', fun t ht => ?_⟩⟩
    · refine qaT ?_
      simp only [qaW]
      rw [List.take_of_length_le (by omega)]
      refine ev_f (by simp; omega) (qaP h1 (qhC h2.length_eq ?_))
      have hpl := hp.length_eq
      have := ztK (l := l') hn (by omega) l' (List.suffix_refl _) (by rw [zoI hp]; exact hb)
      rw [Nat.sub_self] at this
      exact this
    · obtain ⟨h3, s, h4, h5⟩ := zmN l' t ht
      exact ⟨h3, s, hp.mem_iff.1 h4, h5⟩
  | d + 1, i, hi => by
    obtain ⟨out, h1, h2⟩ := ztL hn hl hb d (i + 1) (by omega)
    refine ⟨out, ?_, h2⟩
    obtain ⟨t, ht⟩ : ∃ c, l[i]? = some c := ⟨_, List.getElem?_eq_getElem (by omega)⟩
    have hg : gi (l.map Tm.enc) (i : Int) = some t.enc := za3 (by rw [List.getElem?_map, ht]; rfl)
    refine qaT ?_
    simp only [qaW]
    refine ev_t (by simp; omega) (qb6 hg (qaP (q80 _ _ _ _) (ev_t ?_ (qhC (by simp; omega) ?_))))
    · refine decide_eq_true ?_
      show (0 : Int) ≤ min (min (min (t.m.e0 : Int) t.m.e1) t.m.e2) t.m.e3
      omega
    · refine qaT ?_
      simp only [qaW]
      rw [qdB (by omega)]
      have e : (l.take i).map Tm.enc ++ [t.enc] = (l.take (i + 1)).map Tm.enc := by rw [List.take_add_one, ht, List.map_append]; rfl
      rw [e]
      exact h1
theorem qu1 {l : List Tm} {n : Nat} (hn : n ≤ 1000000) (hl : l.length ≤ 1000000000) (hb : ((sumA l : Nat) : Int) < 4294967296 ^ n) :
    ∃ out, Ev (fun K => qpG K (l.map Tm.enc)) (out.map Tm.enc) ∧ zzL l out := by
  cases l with
  | nil =>
    refine ⟨[], ?_, ⟨fun _ => rfl, Nat.le_refl _, Nat.le_refl _, fun t h => by cases h⟩⟩
    refine qaT ?_
    simp only [qpG, qaW]
    refine qaT ?_
    simp only [qaW]
    refine ev_f (by simp) (qaP zvC ?_)
    refine qaT ?_
    simp only [qaW]
    exact ev_f (by simp) (qaP (zqP _) (qa3 _))
  | cons t l =>
    obtain ⟨out, h1, h2⟩ := ztL hn hl hb l.length 1 (by simp only [List.length_cons]; omega)
    refine ⟨out, ?_, h2⟩
    have hg : gi ((t :: l).map Tm.enc) (0 : Int) = some t.enc := rfl
    refine qaT ?_
    simp only [qpG, qaW]
    refine qaT ?_
    simp only [qaW]
    refine ev_t (decide_eq_true (by simp only [List.length_map, List.length_cons]; omega)) (qb6 hg (qaP (q80 _ _ _ _) (ev_t ?_ ?_)))
    · refine decide_eq_true ?_
      show (0 : Int) ≤ min (min (min (t.m.e0 : Int) t.m.e1) t.m.e2) t.m.e3
      omega
    · refine qaT ?_
      simp only [qaW]
      rw [qdB (by omega), List.length_map]
      exact h1
open Go.Proofs.Try (prog)
inductive qlO where
 | c0 (n : Int)
def qhF : Nat → qlO → Option qaG
 | 0, _ => none
 | _ + 1, .c0 n =>
  bif (decide (n < (0 : Int))) then
   some (qaG.mk true ([(wU3 (wI6 (0 - (wI6 n))))] : List Int))
  else
   bif (decide (n = (0 : Int))) then
    some (qaG.mk false [])
   else
    some (qaG.mk false ([(wU3 n)] : List Int))
def qmR (K : Nat) (n : Int) : Option qaG := qhF K (.c0 n)
noncomputable def q2G : Code := qcK prog 68
noncomputable def q4J : qlO → List Fr
 | .c0 .. => [.code q2G]
def q5T : qlO → St
 | .c0 n => St.init [(ti .i8 n)]
def qw9 (cx : Cx) (c : qlO) (r : qaG) : Prop := Wk prog cx (qd0 prog 68 [[0,1]] (TV.agg (qaD r))) (q4J c) .normal (q5T c)
abbrev qxA (K : Nat) : Prop := ∀ c r, qhF K c = some r → ∀ cx : Cx, cx.n = 18 → qw9 cx c r
theorem q5U {K} (_ : qxA K) {cx} (hn : cx.n = 18) {n} {r} (h : qhF (K + 1) (.c0 n) = some r) : qw9 cx (.c0 n) r := by
 rw [qhF] at h
 rcases qaY h with ⟨h1, h⟩ | ⟨h1, h⟩
 ·have h := oinj h; subst h
  exact wkR [rg1, rg2, bTr, rgG [oo, oo, oo, oo, opI (.lit (([(wU3 (wI6 (0 - (wI6 n))))] : List Int).map qaE)), .snap 9 (max 0 (0 + 1)) (([(wU3 (wI6 (0 - (wI6 n))))] : List Int).map qaE), oo, oo]] hn (aC h1 <| aC (by kernel_rfl : [(T.int .u32 (wU3 (wI6 (0 - (wI6 n)))))] = (([(wU3 (wI6 (0 - (wI6 n))))] : List Int).map qaE).flatten) <| aC (qfA _ _ _ (by simp) : ((([(wU3 (wI6 (0 - (wI6 n))))] : List Int).map qaE).drop 0).take 1 = ([(wU3 (wI6 (0 - (wI6 n))))] : List Int).map qaE) <| aC (rfl : (max 0 (0 + 1)) = (max 0 (0 + 1))) <| aN)
 ·rcases qaY h with ⟨h2, h⟩ | ⟨h2, h⟩
  ·have h := oinj h; subst h
   exact wkR [rg1, rg2, bFa, rg2, bTr, rg2] hn (aC h1 <| aC h2 <| aN)
  ·have h := oinj h; subst h
   exact wkR [rg1, rg2, bFa, rg2, bFa, rgG [oo, oo, opI (.lit (([(wU3 n)] : List Int).map qaE)), .snap 16 (max 0 (0 + 1)) (([(wU3 n)] : List Int).map qaE), oo, oo]] hn (aC h1 <| aC h2 <| aC (by kernel_rfl : [(T.int .u32 (wU3 n))] = (([(wU3 n)] : List Int).map qaE).flatten) <| aC (qfA _ _ _ (by simp) : ((([(wU3 n)] : List Int).map qaE).drop 0).take 1 = ([(wU3 n)] : List Int).map qaE) <| aC (rfl : (max 0 (0 + 1)) = (max 0 (0 + 1))) <| aN)
theorem quR : ∀ K : Nat, qxA K
 | 0, c, r, h => by rw [qhF] at h; cases h
 | K + 1, .c0 .., r, h => fun cx hn => q5U (quR K) hn h
theorem qtF {K : Nat} {n : Int} {r : qaG} (h : qmR K n = some r) : qc0 prog 68 [(ti .i8 n)] (TV.agg (qaD r)) :=
 qbG [[0,1]] (by kernel_rfl) (by simp) fun cx hn => quR K (.c0 n) r h cx hn
open Go.Proofs.Try (prog)
inductive qjE where
 | c0 (l : (List qbD))
 | c1 (l : (List qbD)) (i : Int)
 | c2 (t : qaH) (l : (List qbD)) (i : Int) (k : Int)
 | c3 (r38 : (List qaH)) (l : (List qbD)) (i : Int)
 | c4 (t : qaH) (r38 : (List qaH)) (l : (List qbD)) (i : Int) (k : Int)
def qaZ : Nat → qjE → Option (List qaH)
 | 0, _ => none
 | K + 1, .c0 l =>
  qaZ K (.c1 l (0 : Int))
 | K + 1, .c1 l i =>
  bif (decide (i < (l.length : Int))) then
   (gi l i).bind fun x2 =>
   (qmR K x2.Coef).bind fun x4 =>
   qaZ K (.c2 (qaH.mk x4 (qa5.mk (0 : Int) (0 : Int) (0 : Int) (0 : Int))) l i (0 : Int))
  else
   some []
 | K + 1, .c2 t l i k =>
  bif (decide (k < (4 : Int))) then
   (gi l i).bind fun x2 =>
   bif (decide (k = 0)) then
    qaZ K (.c2 (qaH.mk t.Coef (qa5.mk (wI6 x2.Exp.e0) t.Exp.e1 t.Exp.e2 t.Exp.e3)) l i (wI6 (k + (1 : Int))))
   else
    bif (decide (k = 1)) then
     qaZ K (.c2 (qaH.mk t.Coef (qa5.mk t.Exp.e0 (wI6 x2.Exp.e1) t.Exp.e2 t.Exp.e3)) l i (wI6 (k + (1 : Int))))
    else
     bif (decide (k = 2)) then
      qaZ K (.c2 (qaH.mk t.Coef (qa5.mk t.Exp.e0 t.Exp.e1 (wI6 x2.Exp.e2) t.Exp.e3)) l i (wI6 (k + (1 : Int))))
     else
      bif (decide (k = 3)) then
       qaZ K (.c2 (qaH.mk t.Coef (qa5.mk t.Exp.e0 t.Exp.e1 t.Exp.e2 (wI6 x2.Exp.e3))) l i (wI6 (k + (1 : Int))))
      else
       none
  else
   qaZ K (.c3 ([t] : List qaH) l (wI6 (i + (1 : Int))))
 | K + 1, .c3 r38 l i =>
  bif (decide (i < (l.length : Int))) then
   (gi l i).bind fun x2 =>
   (qmR K x2.Coef).bind fun x4 =>
   qaZ K (.c4 (qaH.mk x4 (qa5.mk (0 : Int) (0 : Int) (0 : Int) (0 : Int))) r38 l i (0 : Int))
  else
   some r38
 | K + 1, .c4 t r38 l i k =>
  bif (decide (k < (4 : Int))) then
   (gi l i).bind fun x2 =>
   bif (decide (k = 0)) then
    qaZ K (.c4 (qaH.mk t.Coef (qa5.mk (wI6 x2.Exp.e0) t.Exp.e1 t.Exp.e2 t.Exp.e3)) r38 l i (wI6 (k + (1 : Int))))
   else
    bif (decide (k = 1)) then
     qaZ K (.c4 (qaH.mk t.Coef (qa5.mk t.Exp.e0 (wI6 x2.Exp.e1) t.Exp.e2 t.Exp.e3)) r38 l i (wI6 (k + (1 : Int))))
    else
     bif (decide (k = 2)) then
      qaZ K (.c4 (qaH.mk t.Coef (qa5.mk t.Exp.e0 t.Exp.e1 (wI6 x2.Exp.e2) t.Exp.e3)) r38 l i (wI6 (k + (1 : Int))))
     else
      bif (decide (k = 3)) then
       qaZ K (.c4 (qaH.mk t.Coef (qa5.mk t.Exp.e0 t.Exp.e1 t.Exp.e2 (wI6 x2.Exp.e3))) r38 l i (wI6 (k + (1 : Int))))
      else
       none
  else
   gd ((r38 ++ ([t] : List qaH)).length * 64 ≤ 140737488355328) <|
   qaZ K (.c3 (r38 ++ ([t] : List qaH)) l (wI6 (i + (1 : Int))))
def ql4 (K : Nat) (l : (List qbD)) : Option (List qaH) := qaZ K (.c0 l)
noncomputable def qb9 : Code := qcK prog 15
noncomputable def qzW : qjE → List Fr
 | .c0 .. => [.code qb9]
 | .c1 .. => [.code (.loop (atC qb9 [1,1,0,1,0,0])), .blk 0, .code (atC qb9 [1,1,1])]
 | .c2 .. => [.code (.loop (atC qb9 [1,1,0,1,0,0,1,0,0,1,0,1,0,0])), .blk 2, .code (atC qb9 [1,1,0,1,0,0,1,0,0,1,1]), .blk 1, .code (atC qb9 [1,1,0,1,0,0,1,1]), .lp (atC qb9 [1,1,0,1,0,0]), .blk 0, .code (atC qb9 [1,1,1])]
 | .c3 .. => [.code (.loop (atC qb9 [1,1,0,1,0,0])), .blk 0, .code (atC qb9 [1,1,1])]
 | .c4 .. => [.code (.loop (atC qb9 [1,1,0,1,0,0,1,0,0,1,0,1,0,0])), .blk 2, .code (atC qb9 [1,1,0,1,0,0,1,0,0,1,1]), .blk 1, .code (atC qb9 [1,1,0,1,0,0,1,1]), .lp (atC qb9 [1,1,0,1,0,0]), .blk 0, .code (atC qb9 [1,1,1])]
def q0P : qjE → St
 | .c0 l => St.init [(tl 5 l qaO)]
 | .c1 l i => ⟨[(0, vl 5 l qaO), (3, .c (C.nil)), (4, vi .i64 i)], [], []⟩
 | .c2 t l i k => ⟨[(0, vl 5 l qaO), (3, .c (C.nil)), (4, vi .i64 i), (5, .c (C.ptr 5 0)), (6, vi .i64 k)], [(5, .var ((qaA t).map C.t))], []⟩
 | .c3 r38 l i => ⟨[(0, vl 5 l qaO), (3, .c (C.row 38 0 r38.length)), (4, vi .i64 i)], [(38, .row 135 6 (r38.map qaA) 0)], []⟩
 | .c4 t r38 l i k => ⟨[(0, vl 5 l qaO), (3, .c (C.row 38 0 r38.length)), (4, vi .i64 i), (5, .c (C.ptr 5 0)), (6, vi .i64 k)], [(5, .var ((qaA t).map C.t)), (38, .row 135 6 (r38.map qaA) 0)], []⟩
def qgA (cx : Cx) (c : qjE) (r : (List qaH)) : Prop := Wk prog cx (qd0 prog 15 [[6]] (tl 6 r qaA)) (qzW c) .normal (q0P c)
abbrev qgB (K : Nat) : Prop := ∀ c r, qaZ K c = some r → ∀ cx : Cx, cx.n = 40 → qgA cx c r
theorem q0U {K} (ih : qgB K) {cx} (hn : cx.n = 40) {l} {r} (h : qaZ (K + 1) (.c0 l) = some r) : qgA cx (.c0 l) r := by
 rw [qaZ] at h
 exact q2Q (fuel := 64) [rg1, rg1, rg1, .pre [.keep [0,3,4] []]] _ hn (by kernel_rfl) aN (ih _ _ h cx hn)
theorem q0T {K} (ih : qgB K) {cx} (hn : cx.n = 40) {l i} {r} (h : qaZ (K + 1) (.c1 l i) = some r) : qgA cx (.c1 l i) r := by
 rw [qaZ] at h
 rcases qaY h with ⟨h1, h⟩ | ⟨h1, h⟩
 ·obtain ⟨x2, h3, h⟩ := qaV h
  obtain ⟨x4, h5, h⟩ := qaV h
  exact wkG [.go, rgG [oo, oo, opI (.ln (l.length : Int)), oo], bTr, rgG [oo, oo, opI (.ix (qaO x2)), oo, oo, opI (.call [[0]] [(ti .i8 x2.Coef)] (TV.agg (qaD x4))), oo, oo, oo], rg1, .pre [.keep [0,3,4,5,6] [5]]] hn (aC (qdF l qaO) <| aC h1 <| aC (qb2 h3) <| aC (qfK qaO h3) <| aC (qtF h5) <| aN) (ih _ _ h cx hn)
 ·have h := oinj h; subst h
  exact wkR [.go, rgG [oo, oo, opI (.ln (l.length : Int)), oo], bFa, rg2] hn (aC (qdF l qaO) <| aC h1 <| aN)
theorem q0S {K} (ih : qgB K) {cx} (hn : cx.n = 40) {t l i k} {r} (h : qaZ (K + 1) (.c2 t l i k) = some r) : qgA cx (.c2 t l i k) r := by
 rw [qaZ] at h
 rcases qaY h with ⟨h1, h⟩ | ⟨h1, h⟩
 ·obtain ⟨x2, h3, h⟩ := qaV h
  rcases qaY h with ⟨h4, h⟩ | ⟨h4, h⟩
  ·exact wkG [.go, rg2, bTr, rgG [oo, oo, oo, oo, opI (.ix (qaO x2)), oo, opI (.ia 0), oo, oo, oo, opI (.ia 0), oo], rg3, .pre [.keep [0,3,4,5,6] [5]]] hn (aC h1 <| aC (qb2 h3) <| aC (qfK qaO h3) <| aC (of_decide_eq_true h4 : k = ((0 : Nat) : Int)) <| aC (of_decide_eq_true h4 : k = ((0 : Nat) : Int)) <| aN) (ih _ _ h cx hn)
  ·rcases qaY h with ⟨h5, h⟩ | ⟨h5, h⟩
   ·exact wkG [.go, rg2, bTr, rgG [oo, oo, oo, oo, opI (.ix (qaO x2)), oo, opI (.ia 1), oo, oo, oo, opI (.ia 1), oo], rg3, .pre [.keep [0,3,4,5,6] [5]]] hn (aC h1 <| aC (qb2 h3) <| aC (qfK qaO h3) <| aC (of_decide_eq_true h5 : k = ((1 : Nat) : Int)) <| aC (of_decide_eq_true h5 : k = ((1 : Nat) : Int)) <| aN) (ih _ _ h cx hn)
   ·rcases qaY h with ⟨h6, h⟩ | ⟨h6, h⟩
    ·exact wkG [.go, rg2, bTr, rgG [oo, oo, oo, oo, opI (.ix (qaO x2)), oo, opI (.ia 2), oo, oo, oo, opI (.ia 2), oo], rg3, .pre [.keep [0,3,4,5,6] [5]]] hn (aC h1 <| aC (qb2 h3) <| aC (qfK qaO h3) <| aC (of_decide_eq_true h6 : k = ((2 : Nat) : Int)) <| aC (of_decide_eq_true h6 : k = ((2 : Nat) : Int)) <| aN) (ih _ _ h cx hn)
    ·rcases qaY h with ⟨h7, h⟩ | ⟨h7, h⟩
     ·exact wkG [.go, rg2, bTr, rgG [oo, oo, oo, oo, opI (.ix (qaO x2)), oo, opI (.ia 3), oo, oo, oo, opI (.ia 3), oo], rg3, .pre [.keep [0,3,4,5,6] [5]]] hn (aC h1 <| aC (qb2 h3) <| aC (qfK qaO h3) <| aC (of_decide_eq_true h7 : k = ((3 : Nat) : Int)) <| aC (of_decide_eq_true h7 : k = ((3 : Nat) : Int)) <| aN) (ih _ _ h cx hn)
     ·cases h
 ·exact wkG [.go, rg2, bFa, rgG [oo, oo, opI (.lit (([t] : List qaH).map qaA)), opI (.appN (([t] : List qaH).map qaA)), oo], rg3, .pre [.rl 3 0 ([t] : List qaH).length, .keep [0,3,4] [38]]] hn (aC h1 <| aC (by kernel_rfl : [(T.bool t.Coef.Neg), (T.sl 1 (t.Coef.Abs.map qaE)), (T.int .i64 t.Exp.e0), (T.int .i64 t.Exp.e1), (T.int .i64 t.Exp.e2), (T.int .i64 t.Exp.e3)] = (([t] : List qaH).map qaA).flatten) <| aC (qfA _ _ _ (by simp) : ((([t] : List qaH).map qaA).drop 0).take 1 = ([t] : List qaH).map qaA) <| aC (by simp : 0 < (([t] : List qaH).map qaA).length) <| aC (by simp : (([t] : List qaH).map qaA).length * 64 ≤ 140737488355328) <| aC (by simp [maxLen] : (([t] : List qaH).map qaA).length ≤ maxLen) <| aC r0 <| aC (by simp : (([t] : List qaH).map qaA).length = ([t] : List qaH).length) <| aN) (ih _ _ h cx hn)
theorem q0R {K} (ih : qgB K) {cx} (hn : cx.n = 40) {r38 l i} {r} (h : qaZ (K + 1) (.c3 r38 l i) = some r) : qgA cx (.c3 r38 l i) r := by
 rw [qaZ] at h
 rcases qaY h with ⟨h1, h⟩ | ⟨h1, h⟩
 ·obtain ⟨x2, h3, h⟩ := qaV h
  obtain ⟨x4, h5, h⟩ := qaV h
  exact wkG [.go, rgG [oo, oo, opI (.ln (l.length : Int)), oo], bTr, rgG [oo, oo, opI (.ix (qaO x2)), oo, oo, opI (.call [[0]] [(ti .i8 x2.Coef)] (TV.agg (qaD x4))), oo, oo, oo], rg1, .pre [.rl 3 0 r38.length, .keep [0,3,4,5,6] [5,38]]] hn (aC (qdF l qaO) <| aC h1 <| aC (qb2 h3) <| aC (qfK qaO h3) <| aC (qtF h5) <| aC r0 <| aC (lq r38) <| aN) (ih _ _ h cx hn)
 ·have h := oinj h; subst h
  exact wkR [.go, rgG [oo, oo, opI (.ln (l.length : Int)), oo], bFa, rgG [oo, oo, .snap 2 (max 0 (0 + r38.length)) (r38.map qaA)]] hn (aC (qdF l qaO) <| aC h1 <| aC (qfA _ _ _ (by simp) : ((r38.map qaA).drop 0).take r38.length = r38.map qaA) <| aC (rfl : (max 0 (0 + r38.length)) = (max 0 (0 + r38.length))) <| aN)
theorem q0Q {K} (ih : qgB K) {cx} (hn : cx.n = 40) {t r38 l i k} {r} (h : qaZ (K + 1) (.c4 t r38 l i k) = some r) : qgA cx (.c4 t r38 l i k) r := by
 rw [qaZ] at h
 rcases qaY h with ⟨h1, h⟩ | ⟨h1, h⟩
 ·obtain ⟨x2, h3, h⟩ := qaV h
  rcases qaY h with ⟨h4, h⟩ | ⟨h4, h⟩
  ·exact wkG [.go, rg2, bTr, rgG [oo, oo, oo, oo, opI (.ix (qaO x2)), oo, opI (.ia 0), oo, oo, oo, opI (.ia 0), oo], rg3, .pre [.rl 3 0 r38.length, .keep [0,3,4,5,6] [5,38]]] hn (aC h1 <| aC (qb2 h3) <| aC (qfK qaO h3) <| aC (of_decide_eq_true h4 : k = ((0 : Nat) : Int)) <| aC (of_decide_eq_true h4 : k = ((0 : Nat) : Int)) <| aC r0 <| aC (lq r38) <| aN) (ih _ _ h cx hn)
  ·rcases qaY h with ⟨h5, h⟩ | ⟨h5, h⟩
   ·exact wkG [.go, rg2, bTr, rgG [oo, oo, oo, oo, opI (.ix (qaO x2)), oo, opI (.ia 1), oo, oo, oo, opI (.ia 1), oo], rg3, .pre [.rl 3 0 r38.length, .keep [0,3,4,5,6] [5,38]]] hn (aC h1 <| aC (qb2 h3) <| aC (qfK qaO h3) <| aC (of_decide_eq_true h5 : k = ((1 : Nat) : Int)) <| aC (of_decide_eq_true h5 : k = ((1 : Nat) : Int)) <| aC r0 <| aC (lq r38) <| aN) (ih _ _ h cx hn)
   ·rcases qaY h with ⟨h6, h⟩ | ⟨h6, h⟩
    ·exact wkG [.go, rg2, bTr, rgG [oo, oo, oo, oo, opI (.ix (qaO x2)), oo, opI (.ia 2), oo, oo, oo, opI (.ia 2), oo], rg3, .pre [.rl 3 0 r38.length, .keep [0,3,4,5,6] [5,38]]] hn (aC h1 <| aC (qb2 h3) <| aC (qfK qaO h3) <| aC (of_decide_eq_true h6 : k = ((2 : Nat) : Int)) <| aC (of_decide_eq_true h6 : k = ((2 : Nat) : Int)) <| aC r0 <| aC (lq r38) <| aN) (ih _ _ h cx hn)
    ·rcases qaY h with ⟨h7, h⟩ | ⟨h7, h⟩
     ·exact wkG [.go, rg2, bTr, rgG [oo, oo, oo, oo, opI (.ix (qaO x2)), oo, opI (.ia 3), oo, oo, oo, opI (.ia 3), oo], rg3, .pre [.rl 3 0 r38.length, .keep [0,3,4,5,6] [5,38]]] hn (aC h1 <| aC (qb2 h3) <| aC (qfK qaO h3) <| aC (of_decide_eq_true h7 : k = ((3 : Nat) : Int)) <| aC (of_decide_eq_true h7 : k = ((3 : Nat) : Int)) <| aC r0 <| aC (lq r38) <| aN) (ih _ _ h cx hn)
     ·cases h
 ·obtain ⟨h2, h⟩ := qb3 h
  exact wkG [.go, rg2, bFa, .pre [.keep [0,3,4,5] [5,38]], rgG [oo, oo, opI (.lit (([t] : List qaH).map qaA)), .appR (([t] : List qaH).map qaA) ((r38 ++ ([t] : List qaH)).map qaA), oo], rg3, .pre [.rl 3 0 (r38 ++ ([t] : List qaH)).length, .keep [0,3,4] [38]]] hn (aC h1 <| aC (by kernel_rfl : [(T.bool t.Coef.Neg), (T.sl 1 (t.Coef.Abs.map qaE)), (T.int .i64 t.Exp.e0), (T.int .i64 t.Exp.e1), (T.int .i64 t.Exp.e2), (T.int .i64 t.Exp.e3)] = (([t] : List qaH).map qaA).flatten) <| aC (by simp : r38.length = (r38.map qaA).length) <| aC (qfA _ _ _ (by simp) : ((([t] : List qaH).map qaA).drop 0).take 1 = ([t] : List qaH).map qaA) <| aC (qxK _ _ _ : r38.map qaA ++ ([t] : List qaH).map qaA = (r38 ++ ([t] : List qaH)).map qaA) <| aC ((qeG _ _).symm ▸ h2 : ((r38 ++ ([t] : List qaH)).map qaA).length * 64 ≤ 140737488355328) <| aC ((qeG _ _).symm ▸ room (by decide) h2 : ((r38 ++ ([t] : List qaH)).map qaA).length ≤ maxLen) <| aC r0 <| aC (by simp : ((r38 ++ ([t] : List qaH)).map qaA).length = (r38 ++ ([t] : List qaH)).length) <| aN) (ih _ _ h cx hn)
theorem qfO : ∀ K : Nat, qgB K
 | 0, c, r, h => by rw [qaZ] at h; cases h
 | K + 1, .c0 .., r, h => fun cx hn => q0U (qfO K) hn h
 | K + 1, .c1 .., r, h => fun cx hn => q0T (qfO K) hn h
 | K + 1, .c2 .., r, h => fun cx hn => q0S (qfO K) hn h
 | K + 1, .c3 .., r, h => fun cx hn => q0R (qfO K) hn h
 | K + 1, .c4 .., r, h => fun cx hn => q0Q (qfO K) hn h
theorem qxO {K : Nat} {l : (List qbD)} {r : (List qaH)} (h : ql4 K l = some r) : qc0 prog 15 [(tl 5 l qaO)] (tl 6 r qaA) :=
 qbG [[6]] (by kernel_rfl) (by simp) fun cx hn => qfO K (.c0 l) r h cx hn
end Go.Am.X
namespace Go.Am
open Go.RowKit (Below)
theorem zl7 {r : Option Nat} {n m : Nat} {P : Program} {c : Code} {Q : Exit → Act → World → Prop} {a : Act} {w : World} (h : c.wpIn (qp8 r) n P Q a w) : c.wpIn (qp8 r) m P Q a w :=
  fun b k cs h1 h2 _ => h b k cs h1 h2 (fun _ h => by simp [qp8, Fence.wide] at h)
def qjK (n : Nat) (tm : List (Nat × V)) : List V := (List.range n).map fun t => (tm.lookup t).getD (.c .any)
section
variable {P : Program} {cx : Cx} {o : Oper} {st : St} {L L' : Loc} {I I' : Nat → Nat → Prop} {a : Act} {w w' : World}
theorem q30 (w : World) (L : Loc) (ds : List Nat) (H : List (Nat × Blk)) (I : Nat → Nat → Prop) : Keep none w w L { L with ds := ds } H H I I :=
  ⟨fun _ _ h => h, fun _ _ _ => rfl, fun _ _ hs => ⟨hs, rfl⟩, fun _ _ _ es fz _ hl => ⟨es, fz, hl, Nat.le_refl _, rfl⟩⟩
theorem SimD.putRec {w0 : World} {I0 : Nat → Nat → Prop} {xs : List Value} {n : Nat} {rd rd' : Option Nat} {ks : List (Nat × Obj)} {l : Nat} {r r' : Obj} (h : SimD ⟨w0, I0, xs, n, rd, (l, r) :: ks⟩ L I st a w) (hl : w0.heap.size ≤ l)
    (hr' : ∀ c t q, r' ≠ .cells c t q) : SimD ⟨w0, I0, xs, n, rd', (l, r') :: ks⟩ L I st a (w.putObj l r') := by
  obtain ⟨hD, hnc⟩ := h.kp.2 (l, r) (List.mem_cons_self ..)
  have hlt := (Array.getElem?_eq_some_iff.1 hD).1
  have oth : ∀ k, k ≠ l → (w.putObj l r').heap[k]? = w.heap[k]? := fun k hk => World.putObj_heap_other hk
  have hsz : (w.putObj l r').heap.size = w.heap.size := by simp [World.putObj]
  have nd : (l :: ks.map (·.1)).Nodup := h.kp.1
  have k : Keep none w (w.putObj l r') L L st.hp st.hp I I := by
    refine ⟨fun _ _ h => h, fun b o _ => ?_, fun j _ hs => ⟨hs, rfl⟩, fun j e sz es fz _ hl => ⟨es, fz, hl, Nat.le_refl _, rfl⟩⟩
    by_cases e : b = l
    · subst e
      simp only [World.cell?, World.putObj_heap_same hlt]
      have hD' : w.heap[b]? = some r := hD
      rw [hD']
      cases r with
      | cells c t q => exact absurd rfl (hnc c t q)
      | _ => cases r' with
        | cells c t q => exact absurd rfl (hr' c t q)
        | _ => rfl
    · simp only [World.cell?, oth b e]
  have ne : ∀ j b, st.hp.lookup j = some b → L.m j ≠ l := fun j b hl e => by
    have hD' : w.heap[l]? = some r := hD
    have := h.hp j b hl
    cases b with
    | var cs => obtain ⟨_, _, c, ty, h3, _⟩ := this; rw [e, hD'] at h3; exact hnc _ _ _ (by simpa using h3)
    | row e' sz es fz => obtain ⟨_, _, _, _, _, _, c, h7, _⟩ := this; rw [e, hD'] at h7; exact hnc _ _ _ (by simpa using h7)
  exact {
    below := h.below.trans ((Below.refl _ w).grown (grownBy_putObj' w l r') (by rw [← hsz]; exact Nat.le_trans h.below.size (Nat.le_of_eq hsz.symm)) (fun k e => by cases e; exact hl))
    i0 := h.i0
    i1 := h.i1
    ib := fun b o hb => by rw [hsz]; exact h.ib b o hb
    inj := h.inj
    hp := fun j b hl => BR.keep k (h.hp j b hl) (Blk.free_none _) (oth _ (ne j b hl)) rfl rfl (fun o ho => ho)
    tm := fun t v hl => by
      obtain ⟨h1, h2⟩ := h.tm t v hl
      exact ⟨k.v (V.free_none v) h1, h2⟩
    ex := k.vs (qf3 _) h.ex
    defers := h.defers
    kp := ⟨nd, fun p hp => by
      rcases List.mem_cons.1 hp with rfl | hp
      · exact ⟨World.putObj_heap_same hlt, hr'⟩
      · obtain ⟨h1, h2⟩ := h.kp.2 p (List.mem_cons_of_mem _ hp)
        exact ⟨(oth _ (fun e => (List.nodup_cons.1 nd).1 (e ▸ List.mem_map.2 ⟨p, hp, rfl⟩))).trans h1, h2⟩⟩
    mks := ⟨h.mks.1, fun D hD => by
      obtain ⟨h1, h2, h3⟩ := h.mks.2 D hD
      exact ⟨(oth _ (fun e => h3 (l, r) (List.mem_cons_self ..) e.symm)).trans h1, h2, fun p hp => by
        rcases List.mem_cons.1 hp with rfl | hp
        · exact h3 (l, r) (List.mem_cons_self ..)
        · exact h3 p (List.mem_cons_of_mem _ hp)⟩⟩
    size := h.size }
theorem tmv_R (h : SimD cx L I st a w) : VRs w L st.hp I a.tmps.toList (qjK cx.n st.tm) := VRs.of_get _ _ (by simp [qjK, h.size]) fun k v x h1 h2 => by
  have hk : k < cx.n := by
    have := (List.getElem?_eq_some_iff.1 h2).1
    simpa [qjK] using this
  simp only [qjK, List.getElem?_map, List.getElem?_range hk, Option.map_some, Option.some.injEq] at h2
  subst h2
  cases hl : st.tm.lookup k with
  | none => trivial
  | some y =>
    have := (h.tm k y hl).1
    have e : a.tmps.getD k undef = v := by
      rw [Array.getD_eq_getD_getElem?]
      rw [Array.getElem?_toList] at h1
      rw [h1]; rfl
    rw [e] at this
    exact this
theorem SimD.bare {ks' : List (Nat × Obj)} (h : SimD cx L I st a w) (hk : zpC ks' w) : SimD ⟨cx.w0, cx.I0, cx.xs ++ a.tmps.toList, 0, none, ks'⟩ { L with ds := [] } I ⟨[], st.hp, st.ex ++ qjK cx.n st.tm⟩ a00 w :=
  { below := h.below
    i0 := h.i0
    i1 := h.i1
    ib := h.ib
    inj := h.inj
    hp := fun j b hl => BR.keep (q30 w L [] st.hp I) (h.hp j b hl) (Blk.free_none _) rfl rfl rfl (fun o ho => ho)
    tm := fun t v ht => by simp at ht
    ex := (q30 w L [] st.hp I).vs (qf3 _) (VRs.append h.ex (tmv_R h))
    defers := rfl
    kp := hk
    mks := ⟨List.nodup_nil, fun _ h => by cases h⟩
    size := rfl }
theorem SimD.unbare {ks' : List (Nat × Obj)} {hp' : List (Nat × Blk)} {a' : Act} {ds : List Nat} (h : SimD cx L I st a w) (h2 : SimD ⟨cx.w0, cx.I0, cx.xs ++ a.tmps.toList, 0, none, ks'⟩ L' I' ⟨[], hp', st.ex ++ qjK cx.n st.tm⟩ a00 w') (ha : a'.tmps = a.tmps)
    (hd : a'.defers = znL ds) (hk : zpC cx.ks w') (hm : ds.Nodup ∧ ∀ D ∈ ds, w'.heap[D]? = some (.deferred (some [])) ∧ cx.w0.heap.size ≤ D ∧ ∀ p ∈ cx.ks, p.1 ≠ D) : SimD cx { L' with ds := ds } I' { st with hp := hp' } a' w' := by
  have hxl : cx.xs.length = st.ex.length := VRs.length h.ex
  exact { below := h2.below
          i0 := h2.i0
          i1 := h2.i1
          ib := h2.ib
          inj := h2.inj
          hp := fun j b hl => BR.keep (q30 w' L' ds hp' I') (h2.hp j b hl) (Blk.free_none _) rfl rfl rfl (fun o ho => ho)
          tm := fun t v ht => by
            have htn := (h.tm t v ht).2
            refine ⟨?_, htn⟩
            have hg : (st.ex ++ qjK cx.n st.tm)[st.ex.length + t]? = some v := by
              rw [List.getElem?_append_right (by omega), Nat.add_sub_cancel_left]
              simp only [qjK, List.getElem?_map, List.getElem?_range htn, Option.map_some]
              rw [show st.tm.lookup t = some v from ht]; rfl
            obtain ⟨u, g1, g2⟩ := VRs.get h2.ex hg
            have g1' : (cx.xs ++ a.tmps.toList)[st.ex.length + t]? = some u := g1
            rw [List.getElem?_append_right (by omega), ← hxl, Nat.add_sub_cancel_left, Array.getElem?_toList] at g1'
            have e : a'.tmps.getD t undef = u := by rw [ha, Array.getD_eq_getD_getElem?, g1']; rfl
            rw [e]; exact (q30 w' L' ds hp' I').v (V.free_none v) g2
          ex := (q30 w' L' ds hp' I').vs (qf3 _) (VRs.left hxl h2.ex)
          defers := hd
          kp := hk
          mks := hm
          size := by rw [ha]; exact h.size }
def zeH (P : Program) (n : Nat) (assign body : Code) (tm : List (Nat × V)) (ex : List V) (hp hp' : List (Nat × Blk)) : Prop :=
  ∀ cx : Cx, cx.n = n → AW P cx assign ⟨tm, hp, ex⟩ fun e s => e = .normal ∧
    ∀ cx' : Cx, cx'.n = n → AW P cx' body s fun e s' => e = .normal ∧ (∀ k b, hp'.lookup k = some b → s'.hp.lookup k = some b) ∧ s'.ex = ex
structure zpU (r : Loop) (n : Nat) (ps : Array Tmp) (assign body : Code) : Prop where
  st : r.state = .ready
  pd : r.pending = none
  asg : r.assign = assign
  bd : r.body = body
  ps : r.params = ps
  n : r.tmps.size = n
theorem zvK {w0 : World} {I0 : Nat → Nat → Prop} {xs : List Value} {exs : List V} {ks : List (Nat × Obj)} {l n m : Nat} {rec : Loop} {fn : FuncId} {ps : Array Tmp} {assign body : Code} {hp hp' : List (Nat × Blk)} {tm : List (Nat × V)} {tmps : Array Value}
    (hr : zpU rec n ps assign body) (hl : w0.heap.size ≤ l) (h : SimD ⟨w0, I0, xs, 0, none, (l, .loop rec) :: ks⟩ L I ⟨[], hp, exs⟩ a00 w) (hsz : tmps.size = n)
    (htm : ∀ t v, tm.lookup t = some v → VR w L hp I (tmps.getD t undef) v ∧ t < n) (hR : zeH P n assign body tm exs hp hp') :
    RoundIn (qp8 none) m P l fn tmps assign body w fun e w' => e = .returned (.bool true) ∧ ∃ L' I', SimD ⟨w0, I0, xs, 0, none, (l, .loop rec) :: ks⟩ L' I' ⟨[], hp', exs⟩ a00 w' := by
  refine roundIn_of_wpIn trivial ?_
  have h0 : SimD ⟨w0, I0, xs, n, some l, (l, .loop rec) :: ks⟩ L I ⟨tm, hp, exs⟩ { tmps := tmps, defers := [] } w :=
    { below := h.below
      i0 := h.i0
      i1 := h.i1
      ib := h.ib
      inj := h.inj
      hp := h.hp
      tm := htm
      ex := h.ex
      defers := h.defers
      kp := h.kp
      mks := h.mks
      size := hsz }
  have hA := hR ⟨w0, I0, xs, n, some l, (l, .loop rec) :: ks⟩ rfl _ w ⟨L, I, h0⟩
  refine wpIn_mono (zl7 hA) fun e a1 w1 ⟨s, hq, L1, I1, h1⟩ => ?_
  obtain ⟨rfl, hB⟩ := hq
  have hg : w1.heap[l]? = some (.loop rec) := (h1.kp.2 (l, .loop rec) (List.mem_cons_self ..)).1
  refine ⟨_, run_beginRound hg hr.st, ?_⟩
  have h2 := h1.putRec (rd' := some l) (r' := .loop { rec with state := .busy }) hl (fun _ _ _ e => by cases e)
  refine wpIn_mono (zl7 (hB _ rfl _ _ ⟨_, _, h2⟩)) fun e a3 w3 ⟨s', hq', L3, I3, h3⟩ => ?_
  obtain ⟨rfl, hhp, hex⟩ := hq'
  have hg3 : w3.heap[l]? = some (.loop { rec with state := .busy }) := (h3.kp.2 (l, .loop { rec with state := .busy }) (List.mem_cons_self ..)).1
  have he := run_endRound (P := P) none hg3
  have h4 := (h3.putRec (rd' := none) (r' := .loop rec) hl (fun _ _ _ e => by cases e)).sub (st' := ⟨[], hp', exs⟩) (fun t v ht => by simp at ht) hhp hex.symm
  have hrec : ({ { rec with state := LoopState.busy } with state := if (none : Option Code).isNone then .ready else .done, pending := none } : Loop) = rec := by
    have := hr.st; have := hr.pd
    cases rec; simp_all
  rw [hrec] at he
  refine ⟨_, _, he, rfl, { L3 with ds := [] }, I3, ?_⟩
  have k3 := q30 (w3.putObj l (.loop rec)) L3 [] hp' I3
  exact {
    below := h4.below
    i0 := h4.i0
    i1 := h4.i1
    ib := h4.ib
    inj := h4.inj
    hp := fun j b hb => BR.keep k3 (h4.hp j b hb) (Blk.free_none _) rfl rfl rfl (fun o ho => ho)
    tm := fun t v ht => by simp at ht
    ex := k3.vs (qf3 _) h4.ex
    defers := rfl
    kp := h4.kp
    mks := ⟨List.nodup_nil, fun _ h => by cases h⟩
    size := rfl }
def q6I : List Tmp → List V → List (Nat × V) → List (Nat × V)
  | p :: ps, v :: vs, tm => q6I ps vs ((p, v) :: tm)
  | _, _, tm => tm
theorem zrC {H : List (Nat × Blk)} {n : Nat} : ∀ (ps : List Tmp) (us : List Value) (vs : List V) (tm : List (Nat × V)) (tmps : Array Value), tmps.size = n → (∀ p ∈ ps, p < n) → VRs w L H I us vs → ps.length = vs.length →
    (∀ t v, tm.lookup t = some v → VR w L H I (tmps.getD t undef) v ∧ t < n) →
    ((ps.zip us).foldl (fun (tmps : Array Value) (x : Tmp × Value) => tmps.setIfInBounds x.1 x.2) tmps).size = n ∧
      ∀ t v, (q6I ps vs tm).lookup t = some v → VR w L H I (((ps.zip us).foldl (fun (tmps : Array Value) (x : Tmp × Value) => tmps.setIfInBounds x.1 x.2) tmps).getD t undef) v ∧ t < n
  | [], _, _, tm, tmps, hn, _, _, _, h => ⟨by simpa using hn, by simpa [q6I] using h⟩
  | p :: ps, [], v :: vs, _, _, _, _, hv, _, _ => hv.elim
  | p :: ps, [], [], _, _, _, _, _, hl, _ => by simp at hl
  | p :: ps, u :: us, [], _, _, _, _, hv, _, _ => hv.elim
  | p :: ps, u :: us, v :: vs, tm, tmps, hn, hp, hv, hl, h => by
    have := zrC ps us vs ((p, v) :: tm) (tmps.setIfInBounds p u) (by simpa using hn) (fun q hq => hp q (List.mem_cons_of_mem _ hq)) hv.2 (by simpa using hl) (fun t x ht => by
      rw [qcR] at ht
      have hpn' : p < n := hp p (List.mem_cons_self ..)
      have hpn : p < tmps.size := by rw [hn]; exact hpn'
      split at ht
      · rename_i e; subst e; cases ht
        refine ⟨?_, hpn'⟩
        have e : (tmps.setIfInBounds t u).getD t undef = u := by simp [hpn]
        rw [e]; exact hv.1
      · rename_i hne
        obtain ⟨h1, h2⟩ := h t x ht
        refine ⟨?_, h2⟩
        have e : (tmps.setIfInBounds p u).getD t undef = tmps.getD t undef := by simp [Array.getElem?_setIfInBounds_ne (Ne.symm hne)]
        rw [e]; exact h1)
    simpa only [List.zip_cons_cons, List.foldl_cons, q6I] using this
theorem zsK (ps : Array Tmp) (args : Array Value) (tmps : Array Value) : (ps.zip args).foldl (fun tmps (x : Tmp × Value) => tmps.setIfInBounds x.1 x.2) tmps = (ps.toList.zip args.toList).foldl (fun tmps x => tmps.setIfInBounds x.1 x.2) tmps := by
  rw [← Array.foldl_toList, Array.toList_zip]
theorem zkD {x : Operand} {args : List Operand} {tys : Array TypeId} {l : Nat} {rec : Loop} (ho : o.op = .call { callee := .value x, args := args.toArray, argTypes := tys }) (hx : a.eval x = .func (.yield l) #[] #[])
    (hg : w.heap[l]? = some (.loop rec)) (hs : args.length = rec.params.size) :
    (execOp a.eval o).run P w = .ok (.round l rec.fn ((rec.params.toList.zip (args.map a.eval)).foldl (fun (tmps : Array Value) (x : Tmp × Value) => tmps.setIfInBounds x.1 x.2) rec.tmps) rec.assign rec.body) w := by
  have hy := run_yield (P := P) (args := (args.map a.eval).toArray) hg (by simpa using hs)
  have hz := zsK rec.params (args.map a.eval).toArray rec.tmps
  simp only [execOp, ho, resolve, hx, Deferred.ofValue, Sem.run_bind, Sem.run_pure, Result.andThen_ok, invoke]
  simp only [List.map_toArray, List.append_toArray] at hy ⊢
  rw [← hz]
  simpa using hy
def q43 (P : Program) (f : FuncId) (caps : List V) (n : Nat) (ps : Array Tmp) (assign body : Code) (tm : List (Nat × V)) (hp hp' : List (Nat × Blk)) : Prop :=
  ∀ (w0 : World) (I0 : Nat → Nat → Prop) (ks : List (Nat × Obj)) (l : Nat) (rec : Loop) (L : Loc) (I : Nat → Nat → Prop) (w : World) (vs : List Value),
    zpU rec n ps assign body → w0.heap.size ≤ l → (∀ t v, tm.lookup t = some v → t < n) →
    SimD ⟨w0, I0, rec.tmps.toList, 0, none, (l, .loop rec) :: ks⟩ L I ⟨[], hp, qjK n tm⟩ a00 w → VRs w L hp I vs caps →
    Calls P f (#[.func (.yield l) #[] #[]] ++ vs.toArray) w fun e w' => ∃ v L' I', e = .returned v ∧
      SimD ⟨w0, I0, rec.tmps.toList, 0, none, (l, .loop rec) :: ks⟩ L' I' ⟨[], hp', qjK n tm⟩ a00 w'
theorem zoR {f : FuncId} (hc : qjG P f = true) (args : Array Value) (w : World) : (callFunc f args).run P w = .ok (.enter f args) w := by
  unfold qjG at hc
  split at hc
  · rename_i fn hfn
    simp only [Bool.and_eq_true, Bool.not_eq_true', Option.isSome_iff_ne_none] at hc
    have hb : fn.body.isNone = false := by cases hbb : fn.body <;> simp_all
    simp only [Sem.run_bind, Result.andThen_ok, callFunc, run_program, hfn, hc.1, hb]
    simp
  · cases hc
theorem SimD.grow (h : SimD cx L I st a w) (o : Obj) : SimD cx L I st a (w.alloc o) :=
  h.after ((Below.refl _ w).alloc (Nat.le_refl _) o) (fun _ _ h => h) (fun _ _ h => .inl h) (fun b o' hb => by have := h.ib b o' hb; simp; omega)
theorem zwI {Q : Exit → St → Prop} {g : Operand} {ps : Array Tmp} {assign body : Code} {f : FuncId} {caps : List Cap} {hp' : List (Nat × Blk)} (hrd : cx.rd = none) (hg : fnOf (st.ev g) = some (f, caps)) (hc : qjG P f = true)
    (hex : st.ex = []) (hit : q43 P f (caps.map capV) cx.n ps assign body st.tm st.hp hp') (hQ : Q .normal { st with hp := hp' }) : AW P cx (.rangeFunc g ps assign body) st Q := fun a w hs => by
  obtain ⟨L, I, h⟩ := hs
  obtain ⟨cs, hf, hcs⟩ := zxO (h.ev g) hg
  refine wpIn_rangeFunc fun fn _ => ?_
  obtain ⟨rec, hrec⟩ : ∃ rec : Loop, rec = { state := .ready, pending := none, fn, tmps := a.tmps, params := ps, assign, body, defers := w.heap.size } := ⟨_, rfl⟩
  obtain ⟨w1, hw1⟩ : ∃ w1, (w.alloc (.deferred (some []))).alloc (.loop rec) = w1 := ⟨_, rfl⟩
  have hround : (qp8 cx.rd).round = none := hrd
  rw [hround]
  have hl1 : w1.heap[w.heap.size + 1]? = some (.loop rec) := by
    rw [← hw1]; have := World.alloc_heap_new (w.alloc (.deferred (some []))) (.loop rec); rwa [World.size_alloc] at this
  have hk1 : w1.heap[w.heap.size]? = some (.deferred (some [])) := by
    rw [← hw1]; exact (Below.heap_alloc _ _ _ (by simp)).trans (World.alloc_heap_new w _)
  have old : ∀ k o, w.heap[k]? = some o → w1.heap[k]? = some o := fun k o hk => by
    have hlt := (Array.getElem?_eq_some_iff.1 hk).1
    rw [← hw1]; exact ((Below.heap_alloc _ _ _ (by simp; omega)).trans (Below.heap_alloc _ _ _ hlt)).trans hk
  have h1 : SimD cx L I st a w1 := by rw [← hw1]; exact (h.grow _).grow _
  obtain ⟨ks, hks⟩ : ∃ ks : List (Nat × Obj), ks = (w.heap.size, .deferred (some [])) :: (cx.ks ++ zd8 L.ds) := ⟨_, rfl⟩
  have hkm := zc2 h
  have hkp : zpC ((w.heap.size + 1, .loop rec) :: ks) w1 := by
    have hlt : ∀ p ∈ cx.ks ++ zd8 L.ds, p.1 < w.heap.size := fun p hp => (Array.getElem?_eq_some_iff.1 (hkm.2 p hp).1).1
    refine ⟨?_, fun p hp => ?_⟩
    · rw [hks]
      simp only [List.map_cons, List.nodup_cons, List.mem_cons, List.mem_map, not_or, not_exists, not_and]
      refine ⟨⟨by omega, fun p hp e => ?_⟩, ⟨fun p hp e => ?_, hkm.1⟩⟩
      · have := hlt p hp; omega
      · have := hlt p hp; omega
    · rw [hks] at hp
      rcases List.mem_cons.1 hp with rfl | hp
      · exact ⟨hl1, fun _ _ _ e => by cases e⟩
      · rcases List.mem_cons.1 hp with rfl | hp
        · exact ⟨hk1, fun _ _ _ e => by cases e⟩
        · exact ⟨old _ _ (hkm.2 p hp).1, (hkm.2 p hp).2⟩
  have h2 := h1.bare hkp
  have hxs : cx.xs = [] := by
    have := VRs.length h.ex
    rw [hex] at this
    exact List.eq_nil_of_length_eq_zero this
  rw [hxs, hex, List.nil_append, List.nil_append] at h2
  have htmps : rec.tmps = a.tmps := by rw [hrec]
  have hrok : zpU rec cx.n ps assign body := by rw [hrec]; exact ⟨rfl, rfl, rfl, rfl, rfl, h.size⟩
  have hcall := hit cx.w0 cx.I0 ks (w.heap.size + 1) rec { L with ds := [] } I w1 cs.toList hrok (by have := h.below.size; omega) (fun t v ht => (h.tm t v ht).2)
    (by rw [htmps]; exact h2) ((q30 w1 L [] st.hp I).vs (qf3 _) (by
      have hk : Keep none w w1 L L st.hp st.hp I I := ⟨fun _ _ h => h, fun b o hb => by
        have hlt := h.ib b o hb
        rw [← hw1]
        exact (World.cell?_alloc_lt _ _ ⟨b, o, none⟩ (by simp; omega)).trans (World.cell?_alloc_lt _ _ ⟨b, o, none⟩ hlt), fun j _ hs => ⟨hs, rfl⟩, fun j e sz es fz _ hl => ⟨es, fz, hl, Nat.le_refl _, rfl⟩⟩
      exact hk.vs (qf3 _) hcs))
  refine ⟨w.heap.size + 1, [{ target := .collected w.heap.size, args := #[] }], w1, { target := .fn (.func f) cs, args := #[.func (.yield (w.heap.size + 1)) #[] #[]] }, w1, f,
    #[.func (.yield (w.heap.size + 1)) #[] #[]] ++ cs, w1, ?_, ?_, fun _ _ => trivial, ?_, fun hd => by simp [qp8, Fence.wide] at hd, ?_⟩
  · rw [← hw1, hrec]; exact run_enterLoop_outer _ _ _ _ _
  · simp only [resolve, hf]
    simp [go_sem, Deferred.ofValue]
  · simp only [invoke]; exact zoR hc _ _
  · rw [show cs.toList.toArray = cs by simp] at hcall
    refine zbF (Calls.mono hcall fun e w3 he => ?_)
    obtain ⟨v, L', I', rfl, h3⟩ := he
    have hg3 : w3.heap[w.heap.size + 1]? = some (.loop rec) := (h3.kp.2 (w.heap.size + 1, .loop rec) (List.mem_cons_self ..)).1
    have hend := run_endLoop (P := P) hg3 (by rw [hrok.st]; simp)
    rw [hrok.pd] at hend
    refine ⟨none, _, hend, ?_⟩
    have h4 := h3.putRec (rd' := none) (r' := .loop { rec with state := .exhausted, pending := none }) (by have := h.below.size; show cx.w0.heap.size ≤ _; omega) (fun _ _ _ e => by cases e)
    refine ⟨{ st with hp := hp' }, hQ, { L' with ds := w.heap.size :: L.ds }, I', ?_⟩
    have hkeep : ∀ p ∈ ks, (w3.putObj (w.heap.size + 1) (.loop { rec with state := .exhausted, pending := none })).heap[p.1]? = some p.2 ∧ ∀ c t r, p.2 ≠ .cells c t r := fun p hp => h4.kp.2 p (List.mem_cons_of_mem _ hp)
    have h5 : SimD ⟨cx.w0, cx.I0, cx.xs ++ a.tmps.toList, 0, none, (w.heap.size + 1, .loop { rec with state := .exhausted, pending := none }) :: ks⟩ L' I' ⟨[], hp', st.ex ++ qjK cx.n st.tm⟩ a00 (w3.putObj (w.heap.size + 1) (.loop { rec with state := .exhausted, pending := none })) := by
      have e : cx.xs ++ a.tmps.toList = rec.tmps.toList := by rw [hxs, htmps]; rfl
      have e2 : st.ex ++ qjK cx.n st.tm = qjK cx.n st.tm := by rw [hex]; rfl
      rw [e, e2]; exact h4
    refine h.unbare h5 rfl ?_ ?_ ?_
    · rw [show ({ a with defers := _ } : Act).defers = _ from rfl, h.defers]; rfl
    · exact ⟨h.kp.1, fun p hp => hkeep p (by rw [hks]; exact List.mem_cons_of_mem _ (List.mem_append_left _ hp))⟩
    · refine ⟨List.nodup_cons.2 ⟨fun hm => ?_, h.mks.1⟩, fun D hD => ?_⟩
      · have := (Array.getElem?_eq_some_iff.1 (h.mks.2 _ hm).1).1; omega
      · rcases List.mem_cons.1 hD with rfl | hD
        · refine ⟨(hkeep (w.heap.size, .deferred (some [])) (by rw [hks]; exact List.mem_cons_self ..)).1, h.below.size, fun p hp e => ?_⟩
          have := (Array.getElem?_eq_some_iff.1 (h.kp.2 p hp).1).1; omega
        · exact ⟨(hkeep (D, .deferred (some [])) (by rw [hks]; exact List.mem_cons_of_mem _ (List.mem_append_right _ (List.mem_map.2 ⟨D, hD, rfl⟩)))).1, (h.mks.2 D hD).2⟩
theorem zp4 {ops : Array Oper} {rest : List Oper} {R : St → Prop} {x : Operand} {args : List Operand} {tys : Array TypeId} {l n d : Nat} {rec : Loop} {ks : List (Nat × Obj)} {ps : Array Tmp} {assign body : Code} {hp' : List (Nat × Blk)}
    {tm tk : List (Nat × V)} (hgd : o.guard = none) (ho : o.op = .call { callee := .value x, args := args.toArray, argTypes := tys }) (hd : o.dst = some d) (hx : st.ev x = .c (.yd l)) (hcx : cx.ks = (l, .loop rec) :: ks)
    (hr : zpU rec n ps assign body) (hl : cx.w0.heap.size ≤ l) (hxs : cx.xs = rec.tmps.toList) (hex : st.ex = qjK n tm) (htmn : ∀ t v, tm.lookup t = some v → t < n)
    (hps : ps.size = args.length) (hpn : ∀ p ∈ ps.toList, p < n) (htk : ∀ t v, tk.lookup t = some v → st.tm.lookup t = some v) (hR : zeH P n assign body (q6I ps.toList (args.map st.ev) tm) (qjK n tm ++ qjK cx.n tk) st.hp hp')
    (hN : qmY P cx ops rest (({ tm := tk, hp := hp', ex := st.ex } : St).put d (.c (.t (.bool true)))) R) : qmY P cx ops (o :: rest) st R := fun hds a w hs Q hQ => by
  refine wpListIn_plain hgd fun K hK => ?_
  obtain ⟨L, I, h⟩ := hs
  refine ⟨fun _ _ => trivial, ?_⟩
  rw [Oper.semAt_eq _ _ _ (fun c e => by rw [ho] at e; cases e)]
  have hxv : a.eval x = .func (.yield l) #[] #[] := by have := h.ev x; rw [hx] at this; exact this
  have hg : w.heap[l]? = some (.loop rec) := (h.kp.2 (l, .loop rec) (by rw [hcx]; exact List.mem_cons_self ..)).1
  have hrun := zkD (P := P) (w := w) ho hxv hg (by rw [hr.ps]; exact hps.symm)
  rw [hrun, Oper.uponIn_round, hr.asg, hr.bd, hr.ps]
  have hkm := zc2 h
  rw [hcx] at hkm
  have h' : SimD cx L I { st with tm := tk } a w := h.sub htk (fun _ _ h => h) rfl
  have hb := h'.bare hkm
  have hex' := h.ex
  rw [hxs, hex] at hex'
  have htm0 : ∀ t v, tm.lookup t = some v → VR w L st.hp I (rec.tmps.getD t undef) v ∧ t < n := fun t v ht => by
    have htn := htmn t v ht
    refine ⟨?_, htn⟩
    have hg' : (qjK n tm)[t]? = some v := by
      simp only [qjK, List.getElem?_map, List.getElem?_range htn, Option.map_some]
      rw [ht]; rfl
    obtain ⟨u, g1, g2⟩ := VRs.get hex' hg'
    rw [Array.getElem?_toList] at g1
    have e : rec.tmps.getD t undef = u := by rw [Array.getD_eq_getD_getElem?, g1]; rfl
    rw [e]; exact g2
  have hpa := zrC ps.toList (args.map a.eval) (args.map st.ev) tm rec.tmps hr.n hpn (zv0 h args) (by simpa using hps) htm0
  have kb := q30 w L [] st.hp I
  have hb2 : SimD ⟨cx.w0, cx.I0, cx.xs ++ a.tmps.toList, 0, none, (l, .loop rec) :: (ks ++ zd8 L.ds)⟩ { L with ds := [] } I ⟨[], st.hp, qjK n tm ++ qjK cx.n tk⟩ a00 w := by rw [← hex]; exact hb
  refine ⟨fun hd => by simp [qp8, Fence.wide] at hd, RoundIn.mono (zvK (fn := rec.fn) hr hl hb2 hpa.1 (fun t v ht => ⟨kb.v (V.free_none v) (hpa.2 t v ht).1, (hpa.2 t v ht).2⟩) hR) fun e w' he => ?_⟩
  obtain ⟨rfl, L', I', h2⟩ := he
  rw [hd]
  have h3 : SimD cx { L' with ds := L.ds } I' { tm := tk, hp := hp', ex := st.ex } a w' := h'.unbare (by rw [← hex] at h2; exact h2) rfl h.defers
    ⟨h.kp.1, fun p hp => h2.kp.2 p (by rw [hcx] at hp; exact List.mem_append_left (zd8 L.ds) hp)⟩
    ⟨h.mks.1, fun D hD => ⟨(h2.kp.2 (D, .deferred (some [])) (List.mem_cons_of_mem _ (List.mem_append_right _ (List.mem_map.2 ⟨D, hD, rfl⟩)))).1, (h.mks.2 D hD).2⟩⟩
  exact hK _ _ (hN (fun o ho => hds o (List.mem_cons_of_mem _ ho)) _ w' ⟨_, _, h3.put (v := .c (.t (.bool true))) (val := .bool true) (.bool true) ((hds o (List.mem_cons_self ..)).2 d hd)⟩ Q hQ)
theorem ztI {t : TypeId} {j d : Nat} {z : Value} {zs : List C} (ho : o.op = .alloc t) (hd : o.dst = some d) (hz : (P.info? t).bind (·.zero) = some z)
    (hz1 : z.cells.all (·.oneCell') = true) (hzs : z.cells.toList.map qpC = zs) (hf : st.free j = true) : OpOK P cx o st ((st.addB j (.var zs)).put d (.c (.ptr j 0))) := by
  intro hd' a w hs K Q hK
  obtain ⟨L, I, h⟩ := hs
  have hr : CRs w L st.hp I z.cells.toList zs := hzs ▸ qxH w L st.hp I _ fun v hv => by
    have := Array.all_eq_true_iff_forall_mem.1 hz1 v (by simpa using hv); exact this
  have hcf : qpB (some j) zs = true := by
    subst hzs
    generalize z.cells.toList = l
    induction l with
    | nil => rfl
    | cons v l ih =>
      simp only [List.map_cons, qpB, ih, Bool.and_true]
      exact zj4 (some j) v
  have h2 := h.addVar (ty := t) hf hr hcf
  have hrun : (execOp a.eval o).run P w = .ok (.value (.pointer (some ⟨w.heap.size, 0, none⟩))) (w.alloc (.cells z.cells t)) := by
    simp [execOp, ho, Instr.alloc, zl5 hz, newVar, newRow]
  unfold Oper.wp
  rw [hrun]
  refine hK _ _ ?_
  have := qlV (o := o) (v := .c (.ptr j 0)) (val := .pointer (some ⟨w.heap.size, 0, none⟩)) h2 (fun _ => by simp [Loc.set]) hd'
  rw [hd] at this ⊢
  exact this
def zzM (hp' : List (Nat × Blk)) (exs : List V) (e : Exit) (s : St) : Prop := (e = .ret ∨ e = .normal) ∧ (∀ k b, hp'.lookup k = some b → s.hp.lookup k = some b) ∧ s.ex = exs
def zy4 (P : Program) (f : FuncId) : Bool := match P.funcs[f]? with | some fn => fn.results.toList.isEmpty | none => false
theorem zqH {f : FuncId} {caps : List V} {n m : Nat} {ps : Array Tmp} {assign body : Code} {tm : List (Nat × V)} {hp hp' : List (Nat × Blk)} (hok : okFn P f m = true) (hres : zy4 P f = true) (hl : caps.length + 1 ≤ m)
    (h : ∀ (cx : Cx) (l : Nat) (rec : Loop) (ks : List (Nat × Obj)), cx.n = m → cx.rd = none → cx.ks = (l, .loop rec) :: ks → zpU rec n ps assign body → cx.w0.heap.size ≤ l → cx.xs = rec.tmps.toList → (∀ t v, tm.lookup t = some v → t < n) →
      AW P cx (qmX P f) ⟨idxV 0 (.c (.yd l) :: caps), hp, qjK n tm⟩ (zzM hp' (qjK n tm))) : q43 P f caps n ps assign body tm hp hp' := by
  unfold okFn at hok
  split at hok
  · rename_i fn hfn
    simp only [Bool.and_eq_true, beq_iff_eq] at hok
    obtain ⟨c, hc⟩ := Option.isSome_iff_exists.1 hok.1
    have hbody : qmX P f = c := by unfold qmX; rw [hfn]; show fn.body.getD .skip = c; rw [hc]; rfl
    rw [hbody] at h
    intro w0 I0 ks l rec L I w vs hr hw htmn hs hvs
    refine callsIn_wide.1 (callsIn_of_wp_marks (n := 2) hfn hc trivial ?_)
    have hlen : vs.length = caps.length := VRs.length hvs
    have hn := hok.2
    have hsim : SimD ⟨w0, I0, rec.tmps.toList, m, none, (l, .loop rec) :: ks⟩ L I ⟨idxV 0 (.c (.yd l) :: caps), hp, qjK n tm⟩
        { tmps := (#[(.func (.yield l) #[] #[] : Value)] ++ vs.toArray) ++ Array.replicate (fn.ntmps - (#[(.func (.yield l) #[] #[] : Value)] ++ vs.toArray).size) undef, defers := [] } w :=
      { below := hs.below
        i0 := hs.i0
        i1 := hs.i1
        ib := hs.ib
        inj := hs.inj
        hp := hs.hp
        tm := fun t v ht => by
          obtain ⟨_, h1⟩ := q8C _ 0 t v ht
          simp only [Nat.sub_zero] at h1
          have hvs2 : VRs w L hp I (.func (.yield l) #[] #[] :: vs) (.c (.yd l) :: caps) := ⟨rfl, hvs⟩
          obtain ⟨u, g1, g2⟩ := VRs.get hvs2 h1
          have htl : t < vs.length + 1 := by have := (List.getElem?_eq_some_iff.1 g1).1; simpa using this
          refine ⟨?_, by show t < m; omega⟩
          have : ((#[(.func (.yield l) #[] #[] : Value)] ++ vs.toArray) ++ Array.replicate (fn.ntmps - (#[(.func (.yield l) #[] #[] : Value)] ++ vs.toArray).size) undef).getD t undef = u := by
            have e1 : ((#[(.func (.yield l) #[] #[] : Value)] ++ vs.toArray) ++ Array.replicate (fn.ntmps - (#[(.func (.yield l) #[] #[] : Value)] ++ vs.toArray).size) undef)[t]? = some u := by
              rw [Array.getElem?_append_left (by simp; omega)]
              have : (#[(.func (.yield l) #[] #[] : Value)] ++ vs.toArray) = (.func (.yield l) #[] #[] :: vs).toArray := by simp
              rw [this]; simpa using g1
            simp only [Array.getD_eq_getD_getElem?, e1, Option.getD_some]
          rw [this]
          exact g2
        ex := hs.ex
        defers := hs.defers
        kp := hs.kp
        mks := hs.mks
        size := by simp [hn]; show _ = m; omega }
    refine wpIn_mono (h ⟨w0, I0, rec.tmps.toList, m, none, (l, .loop rec) :: ks⟩ l rec ks rfl rfl rfl hr hw rfl htmn _ w ⟨L, I, hsim⟩) ?_
    intro e a' w' ⟨s, hq, L', I', hs'⟩
    obtain ⟨he, hhp, hex⟩ := hq
    have fin : LeavesInM Fence.wide 2 P fn a'.tmps (fun e w' => ∃ v L' I', e = .returned v ∧ SimD ⟨w0, I0, rec.tmps.toList, 0, none, (l, .loop rec) :: ks⟩ L' I' ⟨[], hp', qjK n tm⟩ a00 w') a'.defers .returning w' := by
      refine qzN L'.ds L' a' w' hs' rfl fun L' w' hs' hds _ _ => ?_
      have h2 : SimD ⟨w0, I0, rec.tmps.toList, m, none, (l, .loop rec) :: ks⟩ L' I' ⟨[], hp', qjK n tm⟩ { a' with defers := [] } w' := hs'.sub (fun t v ht => by simp at ht) hhp hex.symm
      have hre : fn.results = #[] := by
        unfold zy4 at hres
        rw [hfn] at hres
        simp only [List.isEmpty_iff] at hres
        rw [← Array.toArray_toList (xs := fn.results), hres]
      refine ⟨.tuple #[], results_none hre _ _ _, _, L', I', rfl, ?_⟩
      exact {
        below := h2.below
        i0 := h2.i0
        i1 := h2.i1
        ib := h2.ib
        inj := h2.inj
        hp := h2.hp
        tm := fun t v ht => by simp at ht
        ex := h2.ex
        defers := by rw [hds]; rfl
        kp := h2.kp
        mks := h2.mks
        size := rfl }
    rcases he with rfl | rfl
    · exact fin
    · exact fin
  · cases hok
end
open Go.RowKit (Below)
theorem zpD {P : Program} {f : FuncId} {n : Nat} {args : List TV} {res : TV} (hss : List (List Nat)) (hok : fnOk P f n = true) (hl : args.length ≤ n)
    (h : ∀ cx : Cx, cx.n = n → cx.rd = none → Wk P cx (qd0 P f hss res) [.code (qcK P f)] .normal (St.init args)) : qc0 P f args res := by
  unfold fnOk at hok
  split at hok
  · rename_i fn hfn
    simp only [Bool.and_eq_true, beq_iff_eq] at hok
    obtain ⟨c, hc⟩ := Option.isSome_iff_exists.1 hok.1
    refine zrI hss hfn hc hok.2 hl fun cx hcx hrd => ?_
    have := qkP (h cx hcx hrd).h
    have hbody : qcK P f = c := by unfold qcK; rw [hfn]; show fn.body.getD .skip = c; rw [hc]; rfl
    rw [hbody] at this
    intro a w hs
    refine wpIn_mono (this a w hs) fun e _ _ ⟨s, h1, h2⟩ => ⟨s, ?_, h2⟩
    have h1' : qd0 P f hss res e s := h1
    unfold qd0 at h1'
    rw [hfn] at h1'
    exact h1'
  · cases hok
theorem zt2 {P : Program} {f g : FuncId} {n : Nat} {args : List TV} {cs : List T} (hok : okFn P f n = true) (hl : args.length ≤ n)
    (h : ∀ cx : Cx, cx.n = n → Wk P cx (zwQ P f g cs) [.code (qmX P f)] .normal (St.init args)) : zpW P f args g cs :=
  zt3 hok hl fun cx hcx _ => by
    have := qkP (h cx hcx).h
    intro a w hs
    exact this a w hs
def endC (P : Program) (f : FuncId) (s : St) : Option (FuncId × List C) := match endV P f s with
  | some (.c (.fn g [.ptr j 0])) => match s.hp.lookup j with
    | some (.var cs) => some (g, cs)
    | _ => none
  | _ => none
theorem zyC {P : Program} {cx : Cx} {f g : FuncId} {n' fuel : Nat} {cs : List T} {k : List Fr} {en : Exit} {st : St} (gs : List G) (φs : List Prop) (hn : cx.n = n')
    (h : (goX P n' fuel k en st gs).bind (fun q => match q.1, q.2.1 with | [], .ret => (endC P f q.2.2.1).map fun v => (v, q.2.2.2) | _, _ => none) = some ((g, cs.map .t), φs)) (hφ : AllP φs) : Wk P cx (zwQ P f g cs) k en st := by
  refine ⟨?_⟩
  obtain ⟨⟨k', e', st', ψ⟩, h1, h2⟩ := Option.bind_eq_some_iff.1 h
  split at h2
  · rename_i hk he
    have hk : k' = [] := hk
    have he : e' = .ret := he
    subst hk; subst he
    obtain ⟨v, h3, h4⟩ := Option.map_eq_some_iff.1 h2
    cases h4
    have h3 : endC P f st' = some (g, cs.map .t) := h3
    unfold endC at h3
    split at h3
    · rename_i g' j hv
      split at h3
      · rename_i cs' hl
        cases h3
        exact qlN hn h1 hφ ⟨.inl rfl, j, hv, hl⟩
      · cases h3
    · cases h3
  · cases h2
theorem zu7 {P : Program} {cx : Cx} {F : Exit → St → Prop} {n : Nat} {k : List Fr} {st : St} {g : Operand} {ps : Array Tmp} {assign body : Code} {f : FuncId} {caps : List Cap} {hp' : List (Nat × Blk)} (hn : cx.n = n) (hrd : cx.rd = none)
    (hg : fnOf (st.ev g) = some (f, caps)) (hc : qjG P f = true) (hex : st.ex = []) (hit : q43 P f (caps.map capV) n ps assign body st.tm st.hp hp') (hr : Wk P cx F k .normal { st with hp := hp' }) :
    Wk P cx F (.code (.rangeFunc g ps assign body) :: k) .normal st := ⟨by
  subst hn
  exact (zwI hrd hg hc hex hit hr.h : AW P cx (.rangeFunc g ps assign body) st (AWk P cx F k))⟩
def zwR (hp' : List (Nat × Blk)) (ex : List V) (e : Exit) (s : St) : Prop := e = .normal ∧ (∀ k b, hp'.lookup k = some b → s.hp.lookup k = some b) ∧ s.ex = ex
theorem zoU {P : Program} {n : Nat} {assign body : Code} {tm : List (Nat × V)} {ex : List V} {hp hp' : List (Nat × Blk)}
    (h : ∀ cx : Cx, cx.n = n → Wk P cx (fun e s => e = .normal ∧ ∀ cx' : Cx, cx'.n = n → Wk P cx' (zwR hp' ex) [.code body] .normal s) [.code assign] .normal ⟨tm, hp, ex⟩) : zeH P n assign body tm ex hp hp' := fun cx hcx => by
  have := qkP (h cx hcx).h
  intro a w hs
  refine wpIn_mono (this a w hs) fun e _ _ ⟨s, h1, h2⟩ => ⟨s, ⟨h1.1, fun cx' hn' => ?_⟩, h2⟩
  have h3 := qkP (h1.2 cx' hn').h
  intro a w hs
  exact h3 a w hs
theorem zwY {P : Program} {cx : Cx} {F : Exit → St → Prop} {e : Exit} {st : St} (h : F e st) : Wk P cx F [] e st := ⟨h⟩
def rdEnd (ks : List Nat) (r : List Fr × Exit × St × List Prop) : Option (List (Nat × Blk) × List V × List Prop) := match r.1, r.2.1 with
  | [], .normal => (ks.mapM fun k => (r.2.2.1.hp.lookup k).map fun b => (k, b)).map fun H => (H, r.2.2.1.ex, r.2.2.2)
  | _, _ => none
theorem ziR {H : List (Nat × Blk)} : ∀ {ks : List Nat} {H' : List (Nat × Blk)}, (ks.mapM fun k => (H.lookup k).map fun b => (k, b)) = some H' → ∀ k b, H'.lookup k = some b → H.lookup k = some b
  | [], H', h, k, b, hl => by cases h; simp at hl
  | q :: ks, H', h, k, b, hl => by
    simp only [List.mapM_cons, Option.bind_eq_bind, Option.bind_eq_some_iff, Option.map_eq_some_iff] at h
    obtain ⟨p, ⟨c, h1, rfl⟩, H2, h2, h3⟩ := h
    cases h3
    rw [qcR] at hl
    split at hl
    · rename_i e; subst e; cases hl; exact h1
    · exact ziR h2 k b hl
theorem wk_rd {P : Program} {cx : Cx} {hp' : List (Nat × Blk)} {ex : List V} {n fuel : Nat} {k : List Fr} {e : Exit} {st : St} (ks : List Nat) (gs : List G) (φs : List Prop) (hn : cx.n = n)
    (h : (goX P n fuel k e st gs).bind (rdEnd ks) = some (hp', ex, φs)) (hφ : AllP φs) : Wk P cx (zwR hp' ex) k e st := by
  refine ⟨?_⟩
  obtain ⟨⟨k', e', st', ψ⟩, h1, h2⟩ := Option.bind_eq_some_iff.1 h
  unfold rdEnd at h2
  split at h2
  · rename_i hk he
    have hk : k' = [] := hk
    have he : e' = .normal := he
    subst hk; subst he
    obtain ⟨H, h3, h4⟩ := Option.map_eq_some_iff.1 h2
    cases h4
    exact qlN hn h1 hφ ⟨rfl, ziR h3, rfl⟩
  · cases h2
def asEnd (ts js : List Nat) (r : List Fr × Exit × St × List Prop) : Option (St × List Prop) := match r.1, r.2.1 with
  | [], .normal => some (r.2.2.1.keep ts js, r.2.2.2)
  | _, _ => none
theorem wk_as {P : Program} {cx : Cx} {F' : Exit → St → Prop} {body : Code} {n fuel : Nat} {k : List Fr} {e : Exit} {st s1 : St} (ts js : List Nat) (gs : List G) (φs : List Prop) (hn : cx.n = n)
    (h : (goX P n fuel k e st gs).bind (asEnd ts js) = some (s1, φs)) (hφ : AllP φs) (hr : ∀ cx' : Cx, cx'.n = n → Wk P cx' F' [.code body] .normal s1) :
    Wk P cx (fun e s => e = .normal ∧ ∀ cx' : Cx, cx'.n = n → Wk P cx' F' [.code body] .normal s) k e st := by
  refine ⟨?_⟩
  obtain ⟨⟨k', e', st', ψ⟩, h1, h2⟩ := Option.bind_eq_some_iff.1 h
  unfold asEnd at h2
  split at h2
  · rename_i hk he
    have hk : k' = [] := hk
    have he : e' = .normal := he
    subst hk; subst he
    cases h2
    refine qlN hn h1 hφ ⟨rfl, fun cx' hn' => ⟨?_⟩⟩
    exact preCW (is := [.keep ts js]) (φs := []) rfl trivial (hr cx' hn').h
  · cases h2
def itEx (l : Nat) (t5 t6 t7 : T) : List V := qjK 20 [(0, .c (.yd l)), (5, .c (.t t5)), (6, .c (.t t6)), (7, .c (.t t7))]
structure RW (P : Program) (cx : Cx) (ops : Array Oper) (l : List Oper) (st : St) (R : St → Prop) : Prop where
  h : qmY P cx ops l st R
section
variable {P : Program} {cx : Cx} {o : Oper} {ops : Array Oper} {l : List Oper} {st st' : St} {R : St → Prop}
theorem zxC {is : List I} {φs : List Prop} (h : seqX P ops is l st = some (st', φs)) (hφ : AllP φs) (hr : R st') : RW P cx ops l st R := ⟨qjO h hφ hr⟩
theorem rw_op (hg : o.guard = none) (ho : OpOK P cx o st st') (hr : RW P cx ops l st' R) : RW P cx ops (o :: l) st R := ⟨q2Z hg ho hr.h⟩
theorem zs5 {v : V} {d : Nat} (hg : o.guard = none) (hd : o.dst = some d) (hy : qeX P cx o st v) (hr : RW P cx ops l (st.put d v) R) : RW P cx ops (o :: l) st R := ⟨q2Z hg (zo5 hy) (by rw [hd]; exact hr.h)⟩
theorem zs7 {t : TypeId} {j d : Nat} {z : Value} {zs : List C} (hg : o.guard = none) (ho : o.op = .alloc t) (hd : o.dst = some d) (hz : (P.info? t).bind (·.zero) = some z) (hz1 : z.cells.all (·.oneCell') = true) (hzs : z.cells.toList.map qpC = zs) (hf : st.free j = true)
    (hr : RW P cx ops l ((st.addB j (.var zs)).put d (.c (.ptr j 0))) R) : RW P cx ops (o :: l) st R := rw_op hg (ztI ho hd hz hz1 hzs hf) hr
theorem zvH {t : TypeId} {p x : Operand} {j k n : Nat} {cs xs : List C} (hg : o.guard = none) (ho : o.op = .store t p x) (hd : o.dst = none) (hp : st.ev p = .c (.ptr j k)) (hj : st.hp.lookup j = some (.var cs)) (hx : (st.ev x).cellsL st.hp = some xs) (h1 : xs.length = n)
    (hn : (P.info? t).map (·.size) = some n) (h2 : k + n ≤ cs.length) (hr : RW P cx ops l (st.addB j (.var (qdE cs k xs))) R) : RW P cx ops (o :: l) st R := rw_op hg (znI ho hd hp hj hx h1 hn h2) hr
theorem zxB (ht : ∀ t v, st'.tm.lookup t = some v → st.tm.lookup t = some v) (hp : ∀ j b, st'.hp.lookup j = some b → st.hp.lookup j = some b) (he : st'.ex = st.ex) (hr : RW P cx ops l st' R) : RW P cx ops l st R :=
  ⟨qrI (fun _ _ ⟨L, I, hs⟩ => ⟨L, I, hs.sub ht hp he⟩) hr.h⟩
theorem rw_nil (h : R st) : RW P cx ops [] st R := ⟨zs9 h⟩
theorem zs6 {l' : List Oper} (e : l = l') (h : RW P cx ops l' st R) : RW P cx ops l st R := e ▸ h
theorem zvG {x : Operand} {args : List Operand} {tys : Array TypeId} {lp n d m : Nat} {rec : Loop} {ks : List (Nat × Obj)} {ps : Array Tmp} {assign body : Code} {hp' : List (Nat × Blk)}
    {tm tk : List (Nat × V)} {es : List V} (hgd : o.guard = none) (ho : o.op = .call { callee := .value x, args := args.toArray, argTypes := tys }) (hd : o.dst = some d) (hx : st.ev x = .c (.yd lp)) (hcx : cx.ks = (lp, .loop rec) :: ks)
    (hr : zpU rec n ps assign body) (hl : cx.w0.heap.size ≤ lp) (hxs : cx.xs = rec.tmps.toList) (hex : st.ex = qjK n tm) (htmn : ∀ t v, tm.lookup t = some v → t < n)
    (hps : ps.size = args.length) (hpn : ∀ p ∈ ps.toList, p < n) (htk : ∀ t v, tk.lookup t = some v → st.tm.lookup t = some v) (hes : args.map st.ev = es) (hm : cx.n = m) (hR : zeH P n assign body (q6I ps.toList es tm) (qjK n tm ++ qjK m tk) st.hp hp')
    (hN : RW P cx ops l (({ tm := tk, hp := hp', ex := st.ex } : St).put d (.c (.t (.bool true)))) R) : RW P cx ops (o :: l) st R :=
  ⟨zp4 hgd ho hd hx hcx hr hl hxs hex htmn hps hpn htk (by rw [hes, hm]; exact hR) hN.h⟩
end
theorem zwX {P : Program} {cx : Cx} {F : Exit → St → Prop} {n id : Nat} {l : List Oper} {c : Code} {k : List Fr} {st : St} (hc : c = .region id l.toArray false) (hn : cx.n = n) (hd : q4B n l = true)
    (h : RW P cx l.toArray l st fun s => Wk P cx F k .normal s) : Wk P cx F (.code c :: k) .normal st := ⟨by
  subst hc
  exact (zpQ hn hd (fun hds a w hs Q hQ => h.h hds a w hs Q fun st' a' w' hR hs' => hQ st' a' w' hR.h hs') : AW P cx (.region id l.toArray false) st (AWk P cx F k))⟩
theorem zyE {P : Program} {cx : Cx} {F : Exit → St → Prop} {n id : Nat} {l l' : List Oper} {c : Code} {k : List Fr} {st st' : St} {hs : List H} {φ : List Prop} (hc : c = .region id l.toArray true) (hmix : P.follows .mixedOrders = true) (hn : cx.n = n) (hd : q4B n l = true)
    (h : (zp6 P l.toArray hs l st).map (fun r => (zmU l.toArray r.1 && decide (r.1.length ≤ l.length) && r.1.all (fun i => i.fresh.isEmpty), r.2)) = some (true, l', st', φ)) (hφ : AllP φ)
    (hr : RW P cx l.toArray l' st' fun s => Wk P cx F k .normal s) : Wk P cx F (.code c :: k) .normal st := ⟨by
  subst hc
  obtain ⟨⟨infs, l2, st2, φ2⟩, hrr, h1⟩ := Option.map_eq_some_iff.1 h
  simp only [Prod.mk.injEq, Bool.and_eq_true, decide_eq_true_eq] at h1
  obtain ⟨⟨⟨hcomm, hle⟩, hfr⟩, rfl, rfl, rfl⟩ := h1
  refine (q7B infs hmix hn hd hle hcomm ?_ (zm5 hrr hφ (fun hds a w hs Q hQ => hr.h hds a w hs Q fun st' a' w' hR hs' => hQ st' a' w' hR.h hs')) : AW P cx (.region id l.toArray true) st (AWk P cx F k))
  rw [List.all_eq_true] at hfr ⊢
  intro q hq
  have := hfr q hq
  rw [List.isEmpty_iff] at this
  rw [this]; rfl⟩
theorem wk_aw {P : Program} {cx : Cx} {F : Exit → St → Prop} {c : Code} {st : St} (h : Wk P cx F [.code c] .normal st) : AW P cx c st F := by
  have := qkP h.h
  intro a w hs
  exact this a w hs
theorem zwW {P : Program} {cx : Cx} {F : Exit → St → Prop} {c : Code} {k : List Fr} {st st' : St} (ht : ∀ t v, st'.tm.lookup t = some v → st.tm.lookup t = some v) (hp : ∀ j b, st'.hp.lookup j = some b → st.hp.lookup j = some b) (he : st'.ex = st.ex)
    (h : Wk P cx F (.code c :: k) .normal st') : Wk P cx F (.code c :: k) .normal st := ⟨by
  have hc : CW P cx c st' (AWk P cx F k) := h.h
  show CW P cx c st (AWk P cx F k)
  have key : ∀ a w, Sim cx st a w → Sim cx st' a w := fun a w ⟨L, I, hs⟩ => ⟨L, I, hs.sub ht hp he⟩
  cases c with
  | loop x => exact fun a w hs => hc a w (key a w hs)
  | _ => exact fun a w hs => hc a w (key a w hs)⟩
theorem zyD {P : Program} {cx : Cx} {F : Exit → St → Prop} {c x : Code} {id : Nat} (hc : c = .loop x) (J : Nat → St → Prop) (hstep : ∀ m s, J (m + 1) s → Wk P cx (fun e s' => e = .normal ∧ J m s') [.code x] .normal s)
    (hend : ∀ s, J 0 s → Wk P cx (fun e s' => e = .exit id ∧ F .normal s') [.code x] .normal s) : ∀ m s, J m s → Wk P cx F [.code c, .blk id] .normal s := fun m s hJ => ⟨by
  subst hc
  show LW P cx x s (AWk P cx F [.blk id])
  induction m generalizing s with
  | zero =>
    refine LW.round fun a w hs => ?_
    refine wpIn_mono (qkP (hend s hJ).h a w hs) fun e a' w' ⟨s', h1, h2⟩ => ⟨s', ?_, h2⟩
    obtain ⟨rfl, h3⟩ := h1
    show AWk P cx F [.blk id] (.exit id) s'
    simp only [AWk, if_pos]
    exact h3
  | succ m ih =>
    refine LW.round fun a w hs => ?_
    refine wpIn_mono (qkP (hstep m s hJ).h a w hs) fun e a' w' ⟨s', h1, h2⟩ => ⟨s', ?_, h2⟩
    obtain ⟨rfl, h3⟩ := h1
    exact ih s' h3⟩
theorem zqG {P : Program} {f : FuncId} {caps : List V} {n m : Nat} {ps : Array Tmp} {assign body : Code} {tm : List (Nat × V)} {hp hp' : List (Nat × Blk)} (hok : okFn P f m = true) (hres : zy4 P f = true) (hl : caps.length + 1 ≤ m)
    (h : ∀ (cx : Cx) (l : Nat) (rec : Loop) (ks : List (Nat × Obj)), cx.n = m → cx.rd = none → cx.ks = (l, .loop rec) :: ks → zpU rec n ps assign body → cx.w0.heap.size ≤ l → cx.xs = rec.tmps.toList → (∀ t v, tm.lookup t = some v → t < n) →
      Wk P cx (zzM hp' (qjK n tm)) [.code (qmX P f)] .normal ⟨idxV 0 (.c (.yd l) :: caps), hp, qjK n tm⟩) : q43 P f caps n ps assign body tm hp hp' :=
  zqH hok hres hl fun cx l rec ks h1 h2 h3 h4 h5 h6 h7 => wk_aw (h cx l rec ks h1 h2 h3 h4 h5 h6 h7)
theorem zoB {P : Program} {cx : Cx} {F : Exit → St → Prop} {n : Nat} {c : Code} {k : List Fr} {st : St} {tm : List (Nat × V)} {hp hp' : List (Nat × Blk)} {g : Operand} {ps : Array Tmp} {assign body : Code} {f : FuncId} {caps : List Cap} (hcode : c = .rangeFunc g ps assign body)
    (hst : st = ⟨tm, hp, []⟩) (hn : cx.n = n) (hrd : cx.rd = none) (hg : fnOf (st.ev g) = some (f, caps)) (hc : qjG P f = true) (hit : q43 P f (caps.map capV) n ps assign body tm hp hp') (hr : Wk P cx F k .normal ⟨tm, hp', []⟩) :
    Wk P cx F (.code c :: k) .normal st := by
  subst hcode; subst hst
  exact zu7 hn hrd hg hc rfl hit hr
end Go.Am
namespace Go.Am.X
open Go.Proofs.Try (prog)
def itT {β : Type} (K : Nat) (rd : β → qa5 → qaG → Option β) : β → List qaH → Option β
  | b, [] => some b
  | b, x :: xs => (qiQ K x.Coef).bind fun c => (rd b x.Exp c).bind fun b' => itT K rd b' xs
noncomputable def qnF : Code := qmX prog 126
noncomputable def zmQ : List Oper := match atC qnF [1, 0, 0, 1, 1, 0, 0, 0] with | .region _ ops _ => ops.toList | _ => []
noncomputable def q31 : List Oper := match atC qnF [1, 0, 0, 1, 1, 0, 0, 1, 0] with | .region _ ops _ => ops.toList | _ => []
noncomputable def znQ : List Oper := match atC qnF [0] with | .region _ ops _ => ops.toList | _ => []
theorem it_r2 : atC qnF [1, 0, 0, 1, 1, 0, 0, 0] = .region 2 zmQ.toArray false := by kernel_rfl
theorem it_r3 : atC qnF [1, 0, 0, 1, 1, 0, 0, 1, 0] = .region 3 q31.toArray true := by kernel_rfl
theorem it_r0 : atC qnF [0] = .region 0 znQ.toArray false := by kernel_rfl
noncomputable def it_o (l : List Oper) (i : Nat) : Oper := (l[i]?).getD default
def zvV (hp : List (Nat × Blk)) (ex : List V) (l : Nat) (list : List qaH) (i : Int) : St :=
  ⟨[(0, .c (.yd l)), (5, vl 6 list qaA), (6, vi .i64 (list.length : Int)), (7, vi .i64 i)], hp, ex⟩
theorem dupK {k : Nat} (h : ¬ k = 1000) (a b : Blk) (hp : List (Nat × Blk)) : ((1000, a) :: (1000, b) :: hp).lookup k = hp.lookup k := by simp only [qcR, if_neg h]
theorem it_sub {hp : List (Nat × Blk)} (h : hp.lookup 1000 = none) {b : Blk} : ∀ k c, hp.lookup k = some c → ((1000, b) :: hp).lookup k = some c := fun k c hk => by
  rw [qcR]
  split
  · rename_i e; subst e; rw [h] at hk; cases hk
  · exact hk
section
variable {β : Type} {K n j : Nat} {rd : β → qa5 → qaG → Option β} {HP : β → List (Nat × Blk)} {ps : Array Tmp} {assign body : Code} {tm : List (Nat × V)} {list : List qaH}
theorem zvW {cx : Cx} {l : Nat} {rec : Loop} {ks : List (Nat × Obj)} {b b' : β} {i : Nat} {x : qaH} {c : qaG} {F : Exit → St → Prop} (hn : cx.n = 20) (hcx : cx.ks = (l, .loop rec) :: ks) (hr : zpU rec n ps assign body) (hl : cx.w0.heap.size ≤ l)
    (hxs : cx.xs = rec.tmps.toList) (htmn : ∀ t v, tm.lookup t = some v → t < n) (hps : ps.size = 2) (hpn : ∀ p ∈ ps.toList, p < n) (hno : ∀ b, (HP b).lookup 1000 = none)
    (hfree : ∀ b, ((HP b).all (fun p => p.1 == 1000 || p.2.free (some 1000)) && q2R (some 1000) (qjK n tm)) = true)
    (hrd : ∀ b m c b' l t5 t6 t7, rd b m c = some b' → zeH prog n assign body (q6I ps.toList [.agg ((qbB m).map C.t), .agg ((qaD c).map C.t)] tm) (qjK n tm ++ itEx l t5 t6 t7) (HP b) (HP b'))
    (hx : list[i]? = some x) (hlen : list.length ≤ 4611686018427387904) (hc : qiQ K x.Coef = some c) (hb : rd b x.Exp c = some b')
    (hF : ∀ s : St, s.tm.lookup 0 = some (.c (.yd l)) → s.tm.lookup 5 = some (vl 6 list qaA) → s.tm.lookup 6 = some (vi .i64 (list.length : Int)) → s.tm.lookup 7 = some (vi .i64 ((i + 1 : Nat) : Int)) → s.hp = HP b' → s.ex = qjK n tm → F .normal s) :
    Wk prog cx F [.code (atC qnF [1, 0, 0])] .normal (zvV (HP b) (qjK n tm) l list i) := by
  have hil : i < list.length := (List.getElem?_eq_some_iff.1 hx).1
  have hdec : decide ((i : Int) < (list.length : Int)) = true := by simp; omega
  have hwrap : wI6 ((i : Int) + 1) = ((i + 1 : Nat) : Int) := by
    show (if (true && decide (((i : Int) + 1) % 18446744073709551616 ≥ 9223372036854775808)) = true then ((i : Int) + 1) % 18446744073709551616 - 18446744073709551616 else ((i : Int) + 1) % 18446744073709551616) = _
    split
    · rename_i h1; simp at h1; omega
    · rename_i h1; simp at h1; omega
  let ex := qjK n tm
  let k2 : List Fr := [.code (atC qnF [1, 0, 0, 1, 1, 0, 0, 1]), .blk 1, .code (atC qnF [1, 0, 0, 1, 1, 1])]
  let k3 : List Fr := [.code (atC qnF [1, 0, 0, 1, 1, 0, 0, 1, 1]), .blk 1, .code (atC qnF [1, 0, 0, 1, 1, 1])]
  let t5 : T := .sl 6 (list.map qaA)
  let t6 : T := .int .i64 (list.length : Int)
  let t7 : T := .int .i64 (i : Int)
  let tk : List (Nat × V) := [(0, .c (.yd l)), (5, .c (.t t5)), (6, .c (.t t6)), (7, .c (.t t7))]
  let eV : V := .agg ((qbB x.Exp).map C.t)
  let cV : V := .agg ((qaD c).map C.t)
  -- from behind the call of yield
  have stepD : RW prog cx q31.toArray [it_o q31 7] (({ tm := tk, hp := HP b', ex := ex } : St).put 17 (.c (.t (.bool true)))) (fun s => Wk prog cx F k3 .normal s) := by
    refine zxC (is := [.op .p]) (st' := ⟨(18, .c (.t (.bool false))) :: (17, .c (.t (.bool true))) :: tk, HP b', ex⟩) (φs := []) (by kernel_rfl) trivial ?_
    refine q2Q (k := k3) (k' := []) (e' := .normal) (st' := ⟨(7, vi .i64 (wI6 ((i : Int) + 1))) :: (19, vi .i64 (wI6 ((i : Int) + 1))) :: (18, .c (.t (.bool false))) :: (17, .c (.t (.bool true))) :: tk, HP b', ex⟩)
      (fuel := 30) [bFa, rg2] [false = false] hn (by kernel_rfl) ⟨rfl, trivial⟩ (zwY ?_)
    refine hF _ rfl rfl rfl ?_ rfl rfl
    rw [← hwrap]; rfl
  -- the call of yield
  have stepC : RW prog cx q31.toArray [it_o q31 6, it_o q31 7] ⟨(11, .c (.yd l)) :: (13, eV) :: (16, cV) :: tk, HP b, ex⟩ (fun s => Wk prog cx F k3 .normal s) := by
    refine zvG (tm := tm) (tk := tk) (hp' := HP b') (es := [eV, cV]) (x := .tmp 11) (args := [.tmp 13, .tmp 16]) (tys := #[129, 45]) (d := 17) (by kernel_rfl) (by kernel_rfl) (by kernel_rfl) rfl hcx hr hl hxs rfl htmn (by rw [hps]; rfl) hpn ?_ rfl hn ?_ stepD
    · intro t v ht
      simp only [qcR]
      simp only [tk, qcR] at ht
      split at ht
      · rename_i e; subst e; exact ht
      · split at ht
        · rename_i e; subst e; exact ht
        · split at ht
          · rename_i e; subst e; exact ht
          · split at ht
            · rename_i e; subst e; exact ht
            · simp at ht
    · exact hrd b x.Exp c b' l t5 t6 t7 hb
  -- the drawn region
  have stepB : Wk prog cx F k2 .normal ⟨[(0, .c (.yd l)), (4, .c (.ptr 1000 0)), (5, .c (.t t5)), (6, .c (.t t6)), (7, .c (.t t7))], (1000, .var ((qaA x).map C.t)) :: HP b, ex⟩ := by
    refine q2Q (k' := .code (atC qnF [1, 0, 0, 1, 1, 0, 0, 1, 0]) :: k3) (e' := .normal) (st' := ⟨[(0, .c (.yd l)), (4, .c (.ptr 1000 0)), (5, .c (.t t5)), (6, .c (.t t6)), (7, .c (.t t7))], (1000, .var ((qaA x).map C.t)) :: HP b, ex⟩) (fuel := 5) [] [] hn (by kernel_rfl) trivial ?_
    refine zyE (l' := [it_o q31 6, it_o q31 7]) (st' := ⟨(16, cV) :: (15, .agg ((qaD x.Coef).map C.t)) :: (14, .c (.ptr 1000 0)) :: (13, eV) :: (12, .c (.ptr 1000 2)) :: (11, .c (.yd l)) :: [(0, .c (.yd l)), (4, .c (.ptr 1000 0)), (5, .c (.t t5)), (6, .c (.t t6)), (7, .c (.t t7))], (1000, .var ((qaA x).map C.t)) :: HP b, ex⟩)
      (hs := [.p, .p, .p, .p, .p, .call [[0, 1]] [TV.agg (qaD x.Coef)] (TV.agg (qaD c))]) (φ := [qc0 prog 87 [TV.agg (qaD x.Coef)] (TV.agg (qaD c))]) it_r3 (by kernel_rfl) hn (by kernel_rfl) (by kernel_rfl) ⟨qjN hc, trivial⟩ ?_
    refine zxB (st' := ⟨(11, .c (.yd l)) :: (13, eV) :: (16, cV) :: tk, HP b, ex⟩) (fun t v ht => ?_) (it_sub (hno b)) rfl stepC
    simp only [tk, qcR] at ht ⊢
    repeat' (split at ht)
    all_goals (first | (rename_i e; subst e; simpa using ht) | simp at ht)
  -- the region that lays the variable
  have stepA : Wk prog cx F (.code (atC qnF [1, 0, 0, 1, 1, 0, 0, 0]) :: k2) .normal ⟨(8, .c (.t (.bool (decide ((i : Int) < (list.length : Int)))))) :: tk, HP b, ex⟩ := by
    refine zwX (n := 20) it_r2 hn (by kernel_rfl) ?_
    have key : RW prog cx zmQ.toArray [it_o zmQ 0, it_o zmQ 1, it_o zmQ 2, it_o zmQ 3] ⟨(8, .c (.t (.bool (decide ((i : Int) < (list.length : Int)))))) :: tk, HP b, ex⟩ (fun s => Wk prog cx F k2 .normal s) := by
      refine zs5 (v := .c (.ep (qaA x) 0)) (d := 9) (by kernel_rfl) (by kernel_rfl) ?_ ?_
      · exact zqR (t := 33) (x := .tmp 5) (ix := .tmp 7) (k := .i64) (i := (i : Int)) (by kernel_rfl) (by kernel_rfl) rfl rfl (by omega) (by rw [Int.toNat_natCast, List.getElem?_map, hx]; rfl)
      refine zs5 (v := .agg ((qaA x).map C.t)) (d := 10) (by kernel_rfl) (by kernel_rfl) (zsN (by kernel_rfl)) ?_
      refine zs7 (t := 135) (j := 1000) (d := 4) (z := ((prog.info? 135).bind (·.zero)).getD undef) (zs := [.t (.bool false), .nil, .t (.int .i64 0), .t (.int .i64 0), .t (.int .i64 0), .t (.int .i64 0)]) (by kernel_rfl) (by kernel_rfl) (by kernel_rfl) (by kernel_rfl) (by kernel_rfl) (by kernel_rfl) ?_ ?_
      · have := hfree b
        simp only [Bool.and_eq_true] at this
        simp only [St.free, Bool.and_eq_true]
        exact ⟨⟨by kernel_rfl, this.1⟩, this.2⟩
      refine zvH (t := 135) (p := .tmp 4) (x := .tmp 10) (j := 1000) (k := 0) (n := 6) (xs := (qaA x).map C.t) (by kernel_rfl) (by kernel_rfl) (by kernel_rfl) rfl rfl (by kernel_rfl) rfl (by kernel_rfl) (by decide) ?_
      refine zxB (st' := ⟨[(0, .c (.yd l)), (4, .c (.ptr 1000 0)), (5, .c (.t t5)), (6, .c (.t t6)), (7, .c (.t t7))], (1000, .var ((qaA x).map C.t)) :: HP b, ex⟩) (fun t v ht => ?_) (fun k c hk => ?_) rfl (rw_nil stepB)
      · simp only [qcR] at ht
        repeat' (split at ht)
        all_goals (first | (rename_i e; subst e; exact ht) | simp at ht)
      · simp only [qcR] at hk
        split at hk
        · rename_i e; subst e; cases hk; kernel_rfl
        · rename_i e
          exact (dupK e _ _ _).trans hk
    exact zs6 (by kernel_rfl) key
  refine (q2Q (k' := .code (atC qnF [1, 0, 0, 1, 1, 0, 0, 0]) :: k2) (e' := .normal) (st' := ⟨(8, .c (.t (.bool (decide ((i : Int) < (list.length : Int)))))) :: tk, HP b, ex⟩) (fuel := 30) [rg1, bTr]
    [decide ((i : Int) < (list.length : Int)) = true] hn (by kernel_rfl) ⟨hdec, trivial⟩ stepA)
theorem zy9 {b r : β} (h : itT K rd b [] = some r) : b = r := Option.some.inj h
theorem ztR (hps : ps.size = 2) (hpn : ∀ p ∈ ps.toList, p < n) (hno : ∀ b, (HP b).lookup 1000 = none)
    (hfree : ∀ b, ((HP b).all (fun p => p.1 == 1000 || p.2.free (some 1000)) && q2R (some 1000) (qjK n tm)) = true)
    (hj : ∀ b, (HP b).lookup j = some (.var [C.t (T.sl 6 (list.map qaA))]))
    (hrd : ∀ b m c b' l t5 t6 t7, rd b m c = some b' → zeH prog n assign body (q6I ps.toList [.agg ((qbB m).map C.t), .agg ((qaD c).map C.t)] tm) (qjK n tm ++ itEx l t5 t6 t7) (HP b) (HP b'))
    (hlen : list.length ≤ 4611686018427387904) {b r : β} (h : itT K rd b list = some r) : q43 prog 126 [.c (.ptr j 0)] n ps assign body tm (HP b) (HP r) := by
  refine zqG (m := 20) (by kernel_rfl) (by kernel_rfl) (by simp) fun cx l rec ks hn _ hcx hr hl hxs htmn => ?_
  let t5 : T := .sl 6 (list.map qaA)
  let J : Nat → St → Prop := fun m s => ∃ (i : Nat) (b : β), i + m = list.length ∧ itT K rd b (list.drop i) = some r ∧ s.tm.lookup 0 = some (.c (.yd l)) ∧ s.tm.lookup 5 = some (vl 6 list qaA) ∧
    s.tm.lookup 6 = some (vi .i64 (list.length : Int)) ∧ s.tm.lookup 7 = some (vi .i64 ((i : Nat) : Int)) ∧ s.hp = HP b ∧ s.ex = qjK n tm
  have hsub : ∀ {s : St} {i : Nat} {b : β}, s.tm.lookup 0 = some (.c (.yd l)) → s.tm.lookup 5 = some (vl 6 list qaA) → s.tm.lookup 6 = some (vi .i64 (list.length : Int)) → s.tm.lookup 7 = some (vi .i64 ((i : Nat) : Int)) →
      ∀ t v, (zvV (HP b) (qjK n tm) l list i).tm.lookup t = some v → s.tm.lookup t = some v := by
    intro s i b h0 h5 h6 h7 t v ht
    simp only [zvV, qcR] at ht
    split at ht
    · rename_i e; subst e; rw [h0]; exact ht
    · split at ht
      · rename_i e; subst e; rw [h5]; exact ht
      · split at ht
        · rename_i e; subst e; rw [h6]; exact ht
        · split at ht
          · rename_i e; subst e; rw [h7]; exact ht
          · simp at ht
  have loop : ∀ m s, J m s → Wk prog cx (zzM (HP r) (qjK n tm)) [.code (atC qnF [1, 0]), .blk 0] .normal s := by
    refine zyD (x := atC qnF [1, 0, 0]) (by kernel_rfl) J (fun m s hJ => ?_) (fun s hJ => ?_)
    · obtain ⟨i, b, him, hit, h0, h5, h6, h7, hhp, hex⟩ := hJ
      have hil : i < list.length := by omega
      obtain ⟨x, hx⟩ : ∃ x, list[i]? = some x := ⟨_, List.getElem?_eq_getElem hil⟩
      have hdrop : list.drop i = x :: list.drop (i + 1) := by
        rw [List.drop_eq_getElem_cons hil]
        rw [List.getElem?_eq_getElem hil] at hx
        cases hx; rfl
      rw [hdrop] at hit
      obtain ⟨c, hc, hit⟩ := Option.bind_eq_some_iff.1 hit
      obtain ⟨b', hb', hit⟩ := Option.bind_eq_some_iff.1 hit
      refine zwW (hsub (b := b) h0 h5 h6 h7) (fun j q hq => by rw [hhp]; exact hq) hex.symm ?_
      exact zvW hn hcx hr hl hxs htmn hps hpn hno hfree hrd hx hlen hc hb' fun s' g0 g5 g6 g7 ghp gex => ⟨rfl, i + 1, b', by omega, hit, g0, g5, g6, g7, ghp, gex⟩
    · obtain ⟨i, b, him, hit, h0, h5, h6, h7, hhp, hex⟩ := hJ
      have hil : i = list.length := by omega
      have hbr : b = r := by
        rw [hil, List.drop_eq_nil_of_le (Nat.le_refl _)] at hit
        exact zy9 hit
      subst hbr
      refine zwW (hsub (b := b) h0 h5 h6 h7) (fun j q hq => by rw [hhp]; exact hq) hex.symm ?_
      have hdec : decide ((i : Int) < (list.length : Int)) = false := by simp; omega
      refine q2Q (k' := []) (e' := .exit 0) (st' := ⟨(8, .c (.t (.bool (decide ((i : Int) < (list.length : Int)))))) :: (zvV (HP b) (qjK n tm) l list i).tm, HP b, qjK n tm⟩) (fuel := 30) [rg1, bFa]
        [decide ((i : Int) < (list.length : Int)) = false] hn (by kernel_rfl) ⟨hdec, trivial⟩ (zwY ⟨rfl, .inr rfl, fun _ _ h => h, rfl⟩)
  refine q2Q (k' := [.code (atC qnF [0]), .code (atC qnF [1])]) (e' := .normal) (st' := ⟨[(0, .c (.yd l)), (1, .c (.ptr j 0))], HP b, qjK n tm⟩) (fuel := 30) [] [] hn (by kernel_rfl) trivial ?_
  refine zwX (n := 20) it_r0 hn (by kernel_rfl) (zs6 (l' := [it_o znQ 0, it_o znQ 1, it_o znQ 2]) (by kernel_rfl) ?_)
  refine zs5 (v := .c (.t t5)) (d := 5) (by kernel_rfl) (by kernel_rfl) ?_ ?_
  · exact zwU (t := 33) (x := .tmp 1) (n := 1) (by kernel_rfl) (by kernel_rfl) rfl (hj b) rfl
  refine zxC (is := [opI (.ln (list.length : Int)), .op .p]) (st' := ⟨(7, vi .i64 0) :: (6, vi .i64 (list.length : Int)) :: (5, .c (.t t5)) :: [(0, .c (.yd l)), (1, .c (.ptr j 0))], HP b, qjK n tm⟩) (φs := [((list.map qaA).length : Int) = (list.length : Int)]) (by kernel_rfl) ⟨qdF _ _, trivial⟩ ?_
  refine q2Q (k' := [.code (atC qnF [1, 0]), .blk 0]) (e' := .normal) (st' := ⟨(7, vi .i64 0) :: (6, vi .i64 (list.length : Int)) :: (5, .c (.t t5)) :: [(0, .c (.yd l)), (1, .c (.ptr j 0))], HP b, qjK n tm⟩) (fuel := 30) [] [] hn (by kernel_rfl) trivial ?_
  exact loop list.length _ ⟨0, b, by omega, h, rfl, rfl, rfl, rfl, rfl, rfl⟩
end
open Go.Proofs.Try (prog)
inductive qmB where
 | c0 (b2 : qaI) (out : qaI) (b12_0 : (List qaH)) (m : qa5) (c : qaG)
 | c1 (b2 : qaI) (out : qaI) (t : qaI) (b12_0 : (List qaH)) (t17 : qa5) (t18 : Int)
 | c2 (b2 : qaI) (out : qaI) (t : qaI) (b12_0 : (List qaH)) (t17 : qa5) (t18 : Int)
def qbS : Nat → qmB → Option qaI
 | 0, _ => none
 | K + 1, .c0 b2 out b12_0 m c =>
  qbS K (.c1 b2 out (qaI.mk (0 : Int) c []) b12_0 m (0 : Int))
 | K + 1, .c1 b2 out t b12_0 t17 t18 =>
  bif (decide (t18 < (4 : Int))) then
   bif (decide (t18 = 0)) then
    bif (decide ((0 : Int) < t17.e0)) then
     gd (0 ≤ (wI6 (t17.e0 + (1 : Int))) ∧ (wI6 (t17.e0 + (1 : Int))) ≤ (wI6 (t17.e0 + (1 : Int))) ∧ (64 : Int) * (wI6 (t17.e0 + (1 : Int))) ≤ 140737488355328) <|
     (gid qcA (List.replicate (wI6 (t17.e0 + (1 : Int))).toNat ((qaB (qaI.mk (0 : Int) (qaG.mk false []) [])) : (List T))) t17.e0).bind fun _ =>
     qbS K (.c2 b2 out (qaI.mk (wI6 (t18 + (1 : Int))) (qaG.mk false []) ((List.replicate (wI6 (t17.e0 + (1 : Int))).toNat ((qaB (qaI.mk (0 : Int) (qaG.mk false []) [])) : (List T))).set (t17.e0.toNat) (qaB t))) b12_0 t17 t18)
    else
     qbS K (.c2 b2 out t b12_0 t17 t18)
   else
    bif (decide (t18 = 1)) then
     bif (decide ((0 : Int) < t17.e1)) then
      gd (0 ≤ (wI6 (t17.e1 + (1 : Int))) ∧ (wI6 (t17.e1 + (1 : Int))) ≤ (wI6 (t17.e1 + (1 : Int))) ∧ (64 : Int) * (wI6 (t17.e1 + (1 : Int))) ≤ 140737488355328) <|
      (gid qcA (List.replicate (wI6 (t17.e1 + (1 : Int))).toNat ((qaB (qaI.mk (0 : Int) (qaG.mk false []) [])) : (List T))) t17.e1).bind fun _ =>
      qbS K (.c2 b2 out (qaI.mk (wI6 (t18 + (1 : Int))) (qaG.mk false []) ((List.replicate (wI6 (t17.e1 + (1 : Int))).toNat ((qaB (qaI.mk (0 : Int) (qaG.mk false []) [])) : (List T))).set (t17.e1.toNat) (qaB t))) b12_0 t17 t18)
     else
      qbS K (.c2 b2 out t b12_0 t17 t18)
    else
     bif (decide (t18 = 2)) then
      bif (decide ((0 : Int) < t17.e2)) then
       gd (0 ≤ (wI6 (t17.e2 + (1 : Int))) ∧ (wI6 (t17.e2 + (1 : Int))) ≤ (wI6 (t17.e2 + (1 : Int))) ∧ (64 : Int) * (wI6 (t17.e2 + (1 : Int))) ≤ 140737488355328) <|
       (gid qcA (List.replicate (wI6 (t17.e2 + (1 : Int))).toNat ((qaB (qaI.mk (0 : Int) (qaG.mk false []) [])) : (List T))) t17.e2).bind fun _ =>
       qbS K (.c2 b2 out (qaI.mk (wI6 (t18 + (1 : Int))) (qaG.mk false []) ((List.replicate (wI6 (t17.e2 + (1 : Int))).toNat ((qaB (qaI.mk (0 : Int) (qaG.mk false []) [])) : (List T))).set (t17.e2.toNat) (qaB t))) b12_0 t17 t18)
      else
       qbS K (.c2 b2 out t b12_0 t17 t18)
     else
      bif (decide (t18 = 3)) then
       bif (decide ((0 : Int) < t17.e3)) then
        gd (0 ≤ (wI6 (t17.e3 + (1 : Int))) ∧ (wI6 (t17.e3 + (1 : Int))) ≤ (wI6 (t17.e3 + (1 : Int))) ∧ (64 : Int) * (wI6 (t17.e3 + (1 : Int))) ≤ 140737488355328) <|
        (gid qcA (List.replicate (wI6 (t17.e3 + (1 : Int))).toNat ((qaB (qaI.mk (0 : Int) (qaG.mk false []) [])) : (List T))) t17.e3).bind fun _ =>
        qbS K (.c2 b2 out (qaI.mk (wI6 (t18 + (1 : Int))) (qaG.mk false []) ((List.replicate (wI6 (t17.e3 + (1 : Int))).toNat ((qaB (qaI.mk (0 : Int) (qaG.mk false []) [])) : (List T))).set (t17.e3.toNat) (qaB t))) b12_0 t17 t18)
       else
        qbS K (.c2 b2 out t b12_0 t17 t18)
      else
       none
  else
   (qrK K out t).bind fun x2 =>
   some x2
 | K + 1, .c2 b2 out t b12_0 t17 t18 =>
  qbS K (.c1 b2 out t b12_0 t17 (wI6 (t18 + (1 : Int))))
def qsD (K : Nat) (b2 : qaI) (out : qaI) (b12_0 : (List qaH)) (m : qa5) (c : qaG) : Option qaI := qbS K (.c0 b2 out b12_0 m c)
noncomputable def qf7 : Code := qcK prog 81
noncomputable def zb6 : qmB → List Fr
 | .c0 .. => [.code (atC qf7 [1,1,0,1,0,1])]
 | .c1 .. => [.code (.loop (atC qf7 [1,1,0,1,0,1,0,1,0,1,0,0])), .blk 2, .code (atC qf7 [1,1,0,1,0,1,0,1,1]), .blk 1]
 | .c2 .. => [.code (atC qf7 [1,1,0,1,0,1,0,1,0,1,0,0,1,1,1]), .lp (atC qf7 [1,1,0,1,0,1,0,1,0,1,0,0]), .blk 2, .code (atC qf7 [1,1,0,1,0,1,0,1,1]), .blk 1]
def qnO (l : Nat) (t5 t6 t7 : T) : List V := qjK 40 [(2, .c (C.ptr 2 0)), (3, .c (C.ptr 3 0)), (12, .c (C.fn 126 [Cap.ptr 12 0]))] ++ itEx l t5 t6 t7
def zb7 : qmB → qaI → List (Nat × Blk)
 | .c0 b2 _ b12_0 _ _, r_ => [(2, .var ((qaB b2).map C.t)), (3, .var ((qaB r_).map C.t)), (12, .var [C.t (T.sl 6 (b12_0.map qaA))])]
 | .c1 b2 _ _ b12_0 _ _, r_ => [(2, .var ((qaB b2).map C.t)), (3, .var ((qaB r_).map C.t)), (12, .var [C.t (T.sl 6 (b12_0.map qaA))])]
 | .c2 b2 _ _ b12_0 _ _, r_ => [(2, .var ((qaB b2).map C.t)), (3, .var ((qaB r_).map C.t)), (12, .var [C.t (T.sl 6 (b12_0.map qaA))])]
def zfC (l : Nat) (t5 t6 t7 : T) : qmB → St
 | .c0 b2 out b12_0 m c => ⟨[(3, .c (C.ptr 3 0)), (4, .c (C.ptr 4 0)), (5, .c (C.ptr 5 0))], [(2, .var ((qaB b2).map C.t)), (3, .var ((qaB out).map C.t)), (4, .var ((qbB m).map C.t)), (5, .var ((qaD c).map C.t)), (12, .var [C.t (T.sl 6 (b12_0.map qaA))])], qnO l t5 t6 t7⟩
 | .c1 b2 out t b12_0 t17 t18 => ⟨[(3, .c (C.ptr 3 0)), (6, .c (C.ptr 6 0)), (17, .agg ((qbB t17).map C.t)), (18, vi .i64 t18)], [(2, .var ((qaB b2).map C.t)), (3, .var ((qaB out).map C.t)), (6, .var ((qaB t).map C.t)), (12, .var [C.t (T.sl 6 (b12_0.map qaA))])], qnO l t5 t6 t7⟩
 | .c2 b2 out t b12_0 t17 t18 => ⟨[(3, .c (C.ptr 3 0)), (6, .c (C.ptr 6 0)), (17, .agg ((qbB t17).map C.t)), (18, vi .i64 t18)], [(2, .var ((qaB b2).map C.t)), (3, .var ((qaB out).map C.t)), (6, .var ((qaB t).map C.t)), (12, .var [C.t (T.sl 6 (b12_0.map qaA))])], qnO l t5 t6 t7⟩
def qsB (cx : Cx) (l : Nat) (t5 t6 t7 : T) (c : qmB) (r : qaI) : Prop := Wk prog cx (zwR (zb7 c r) (qnO l t5 t6 t7)) (zb6 c) .normal (zfC l t5 t6 t7 c)
abbrev qsC (K : Nat) : Prop := ∀ c r, qbS K c = some r → ∀ cx : Cx, cx.n = 40 → ∀ l t5 t6 t7, qsB cx l t5 t6 t7 c r
theorem zfF {K} (ih : qsC K) {cx} (hn : cx.n = 40) (l : Nat) (t5 t6 t7 : T) {b2 out b12_0 m c} {r} (h : qbS (K + 1) (.c0 b2 out b12_0 m c) = some r) : qsB cx l t5 t6 t7 (.c0 b2 out b12_0 m c) r := by
 rw [qbS] at h
 exact q2Q (fuel := 58) [rg4, rg2, .pre [.tellB 6 [0,0,1,4], .keep [3,6,17,18] [2,3,6,12]]] _ hn (by kernel_rfl) aN (ih _ _ h cx hn l t5 t6 t7)
theorem zfE {K} (ih : qsC K) {cx} (hn : cx.n = 40) (l : Nat) (t5 t6 t7 : T) {b2 out t b12_0 t17 t18} {r} (h : qbS (K + 1) (.c1 b2 out t b12_0 t17 t18) = some r) : qsB cx l t5 t6 t7 (.c1 b2 out t b12_0 t17 t18) r := by
 rw [qbS] at h
 rcases qaY h with ⟨h1, h⟩ | ⟨h1, h⟩
 ·rcases qaY h with ⟨h2, h⟩ | ⟨h2, h⟩
  ·rcases qaY h with ⟨h3, h⟩ | ⟨h3, h⟩
   ·obtain ⟨h4, h⟩ := qb3 h
    obtain ⟨x5, h6, h⟩ := qaV h
    exact wkG [.go, rg1, bTr, rgG [oo, opI (.iv 0), oo, oo], rg2, bTr, rgG [oo, oo, opI (.mk (qaB (qaI.mk (0 : Int) (qaG.mk false []) [])) ((List.replicate (wI6 (t17.e0 + (1 : Int))).toNat ((qaB (qaI.mk (0 : Int) (qaG.mk false []) [])) : (List T))).map rid)), oo], rgG [oo, oo, oo, .op .ir, opI (.st (qaB x5) (((List.replicate (wI6 (t17.e0 + (1 : Int))).toNat ((qaB (qaI.mk (0 : Int) (qaG.mk false []) [])) : (List T))).set (t17.e0.toNat) (qaB t)).map rid))], rgG [oo, oo, oo, .snap 33 (max 0 (0 + (wI6 (t17.e0 + (1 : Int))).toNat)) (((List.replicate (wI6 (t17.e0 + (1 : Int))).toNat ((qaB (qaI.mk (0 : Int) (qaG.mk false []) [])) : (List T))).set (t17.e0.toNat) (qaB t)).map rid), oo, oo], .pre [.tellB 6 [0,0,1,4], .keep [3,6,17,18] [2,3,6,12]]] hn (aC h1 <| aC (of_decide_eq_true h2 : t18 = ((0 : Nat) : Int)) <| aC h3 <| aC h4.1 <| aC h4.2.1 <| aC h4.2.2 <| aC (q82 _ _ : List.replicate (wI6 (t17.e0 + (1 : Int))).toNat (qaB (qaI.mk (0 : Int) (qaG.mk false []) [])) = (List.replicate (wI6 (t17.e0 + (1 : Int))).toNat ((qaB (qaI.mk (0 : Int) (qaG.mk false []) [])) : (List T))).map rid) <| aC (qkO h6 : 0 ≤ t17.e0) <| aC (q8E h6 (by simp) : t17.e0 < (((wI6 (t17.e0 + (1 : Int))).toNat : Nat) : Int)) <| aC (q8D @qa9 h6 : ((List.replicate (wI6 (t17.e0 + (1 : Int))).toNat ((qaB (qaI.mk (0 : Int) (qaG.mk false []) [])) : (List T))).map rid)[(0 + t17.e0.toNat)]? = some (qaB x5)) <| aC (qe3 _ _ (qaB t) _ : ((List.replicate (wI6 (t17.e0 + (1 : Int))).toNat ((qaB (qaI.mk (0 : Int) (qaG.mk false []) [])) : (List T))).map rid).set (0 + t17.e0.toNat) (qdE (qaB x5) 0 [(T.int .i64 t.Level), (T.bool t.Const.Neg), (T.sl 1 (t.Const.Abs.map qaE)), (T.sl 4 (t.Coefs.map rid))]) = ((List.replicate (wI6 (t17.e0 + (1 : Int))).toNat ((qaB (qaI.mk (0 : Int) (qaG.mk false []) [])) : (List T))).set (t17.e0.toNat) (qaB t)).map rid) <| aC (Nat.zero_le _ : 0 ≤ (0 + t17.e0.toNat)) <| aC (qfA _ _ _ (by simp) : ((((List.replicate (wI6 (t17.e0 + (1 : Int))).toNat ((qaB (qaI.mk (0 : Int) (qaG.mk false []) [])) : (List T))).set (t17.e0.toNat) (qaB t)).map rid).drop 0).take ((wI6 (t17.e0 + (1 : Int))).toNat) = ((List.replicate (wI6 (t17.e0 + (1 : Int))).toNat ((qaB (qaI.mk (0 : Int) (qaG.mk false []) [])) : (List T))).set (t17.e0.toNat) (qaB t)).map rid) <| aC (rfl : (max 0 (0 + (wI6 (t17.e0 + (1 : Int))).toNat)) = (max 0 (0 + (wI6 (t17.e0 + (1 : Int))).toNat))) <| aN) (ih _ _ h cx hn l t5 t6 t7)
   ·exact wkG [.go, rg1, bTr, rgG [oo, opI (.iv 0), oo, oo], rg2, bFa, .pre [.keep [3,6,17,18] [2,3,6,12]]] hn (aC h1 <| aC (of_decide_eq_true h2 : t18 = ((0 : Nat) : Int)) <| aC h3 <| aN) (ih _ _ h cx hn l t5 t6 t7)
  ·rcases qaY h with ⟨h3, h⟩ | ⟨h3, h⟩
   ·rcases qaY h with ⟨h4, h⟩ | ⟨h4, h⟩
    ·obtain ⟨h5, h⟩ := qb3 h
     obtain ⟨x6, h7, h⟩ := qaV h
     exact wkG [.go, rg1, bTr, rgG [oo, opI (.iv 1), oo, oo], rg2, bTr, rgG [oo, oo, opI (.mk (qaB (qaI.mk (0 : Int) (qaG.mk false []) [])) ((List.replicate (wI6 (t17.e1 + (1 : Int))).toNat ((qaB (qaI.mk (0 : Int) (qaG.mk false []) [])) : (List T))).map rid)), oo], rgG [oo, oo, oo, .op .ir, opI (.st (qaB x6) (((List.replicate (wI6 (t17.e1 + (1 : Int))).toNat ((qaB (qaI.mk (0 : Int) (qaG.mk false []) [])) : (List T))).set (t17.e1.toNat) (qaB t)).map rid))], rgG [oo, oo, oo, .snap 33 (max 0 (0 + (wI6 (t17.e1 + (1 : Int))).toNat)) (((List.replicate (wI6 (t17.e1 + (1 : Int))).toNat ((qaB (qaI.mk (0 : Int) (qaG.mk false []) [])) : (List T))).set (t17.e1.toNat) (qaB t)).map rid), oo, oo], .pre [.tellB 6 [0,0,1,4], .keep [3,6,17,18] [2,3,6,12]]] hn (aC h1 <| aC (of_decide_eq_true h3 : t18 = ((1 : Nat) : Int)) <| aC h4 <| aC h5.1 <| aC h5.2.1 <| aC h5.2.2 <| aC (q82 _ _ : List.replicate (wI6 (t17.e1 + (1 : Int))).toNat (qaB (qaI.mk (0 : Int) (qaG.mk false []) [])) = (List.replicate (wI6 (t17.e1 + (1 : Int))).toNat ((qaB (qaI.mk (0 : Int) (qaG.mk false []) [])) : (List T))).map rid) <| aC (qkO h7 : 0 ≤ t17.e1) <| aC (q8E h7 (by simp) : t17.e1 < (((wI6 (t17.e1 + (1 : Int))).toNat : Nat) : Int)) <| aC (q8D @qa9 h7 : ((List.replicate (wI6 (t17.e1 + (1 : Int))).toNat ((qaB (qaI.mk (0 : Int) (qaG.mk false []) [])) : (List T))).map rid)[(0 + t17.e1.toNat)]? = some (qaB x6)) <| aC (qe3 _ _ (qaB t) _ : ((List.replicate (wI6 (t17.e1 + (1 : Int))).toNat ((qaB (qaI.mk (0 : Int) (qaG.mk false []) [])) : (List T))).map rid).set (0 + t17.e1.toNat) (qdE (qaB x6) 0 [(T.int .i64 t.Level), (T.bool t.Const.Neg), (T.sl 1 (t.Const.Abs.map qaE)), (T.sl 4 (t.Coefs.map rid))]) = ((List.replicate (wI6 (t17.e1 + (1 : Int))).toNat ((qaB (qaI.mk (0 : Int) (qaG.mk false []) [])) : (List T))).set (t17.e1.toNat) (qaB t)).map rid) <| aC (Nat.zero_le _ : 0 ≤ (0 + t17.e1.toNat)) <| aC (qfA _ _ _ (by simp) : ((((List.replicate (wI6 (t17.e1 + (1 : Int))).toNat ((qaB (qaI.mk (0 : Int) (qaG.mk false []) [])) : (List T))).set (t17.e1.toNat) (qaB t)).map rid).drop 0).take ((wI6 (t17.e1 + (1 : Int))).toNat) = ((List.replicate (wI6 (t17.e1 + (1 : Int))).toNat ((qaB (qaI.mk (0 : Int) (qaG.mk false []) [])) : (List T))).set (t17.e1.toNat) (qaB t)).map rid) <| aC (rfl : (max 0 (0 + (wI6 (t17.e1 + (1 : Int))).toNat)) = (max 0 (0 + (wI6 (t17.e1 + (1 : Int))).toNat))) <| aN) (ih _ _ h cx hn l t5 t6 t7)
    ·exact wkG [.go, rg1, bTr, rgG [oo, opI (.iv 1), oo, oo], rg2, bFa, .pre [.keep [3,6,17,18] [2,3,6,12]]] hn (aC h1 <| aC (of_decide_eq_true h3 : t18 = ((1 : Nat) : Int)) <| aC h4 <| aN) (ih _ _ h cx hn l t5 t6 t7)
   ·rcases qaY h with ⟨h4, h⟩ | ⟨h4, h⟩
    ·rcases qaY h with ⟨h5, h⟩ | ⟨h5, h⟩
     ·obtain ⟨h6, h⟩ := qb3 h
      obtain ⟨x7, h8, h⟩ := qaV h
      exact wkG [.go, rg1, bTr, rgG [oo, opI (.iv 2), oo, oo], rg2, bTr, rgG [oo, oo, opI (.mk (qaB (qaI.mk (0 : Int) (qaG.mk false []) [])) ((List.replicate (wI6 (t17.e2 + (1 : Int))).toNat ((qaB (qaI.mk (0 : Int) (qaG.mk false []) [])) : (List T))).map rid)), oo], rgG [oo, oo, oo, .op .ir, opI (.st (qaB x7) (((List.replicate (wI6 (t17.e2 + (1 : Int))).toNat ((qaB (qaI.mk (0 : Int) (qaG.mk false []) [])) : (List T))).set (t17.e2.toNat) (qaB t)).map rid))], rgG [oo, oo, oo, .snap 33 (max 0 (0 + (wI6 (t17.e2 + (1 : Int))).toNat)) (((List.replicate (wI6 (t17.e2 + (1 : Int))).toNat ((qaB (qaI.mk (0 : Int) (qaG.mk false []) [])) : (List T))).set (t17.e2.toNat) (qaB t)).map rid), oo, oo], .pre [.tellB 6 [0,0,1,4], .keep [3,6,17,18] [2,3,6,12]]] hn (aC h1 <| aC (of_decide_eq_true h4 : t18 = ((2 : Nat) : Int)) <| aC h5 <| aC h6.1 <| aC h6.2.1 <| aC h6.2.2 <| aC (q82 _ _ : List.replicate (wI6 (t17.e2 + (1 : Int))).toNat (qaB (qaI.mk (0 : Int) (qaG.mk false []) [])) = (List.replicate (wI6 (t17.e2 + (1 : Int))).toNat ((qaB (qaI.mk (0 : Int) (qaG.mk false []) [])) : (List T))).map rid) <| aC (qkO h8 : 0 ≤ t17.e2) <| aC (q8E h8 (by simp) : t17.e2 < (((wI6 (t17.e2 + (1 : Int))).toNat : Nat) : Int)) <| aC (q8D @qa9 h8 : ((List.replicate (wI6 (t17.e2 + (1 : Int))).toNat ((qaB (qaI.mk (0 : Int) (qaG.mk false []) [])) : (List T))).map rid)[(0 + t17.e2.toNat)]? = some (qaB x7)) <| aC (qe3 _ _ (qaB t) _ : ((List.replicate (wI6 (t17.e2 + (1 : Int))).toNat ((qaB (qaI.mk (0 : Int) (qaG.mk false []) [])) : (List T))).map rid).set (0 + t17.e2.toNat) (qdE (qaB x7) 0 [(T.int .i64 t.Level), (T.bool t.Const.Neg), (T.sl 1 (t.Const.Abs.map qaE)), (T.sl 4 (t.Coefs.map rid))]) = ((List.replicate (wI6 (t17.e2 + (1 : Int))).toNat ((qaB (qaI.mk (0 : Int) (qaG.mk false []) [])) : (List T))).set (t17.e2.toNat) (qaB t)).map rid) <| aC (Nat.zero_le _ : 0 ≤ (0 + t17.e2.toNat)) <| aC (qfA _ _ _ (by simp) : ((((List.replicate (wI6 (t17.e2 + (1 : Int))).toNat ((qaB (qaI.mk (0 : Int) (qaG.mk false []) [])) : (List T))).set (t17.e2.toNat) (qaB t)).map rid).drop 0).take ((wI6 (t17.e2 + (1 : Int))).toNat) = ((List.replicate (wI6 (t17.e2 + (1 : Int))).toNat ((qaB (qaI.mk (0 : Int) (qaG.mk false []) [])) : (List T))).set (t17.e2.toNat) (qaB t)).map rid) <| aC (rfl : (max 0 (0 + (wI6 (t17.e2 + (1 : Int))).toNat)) = (max 0 (0 + (wI6 (t17.e2 + (1 : Int))).toNat))) <| aN) (ih _ _ h cx hn l t5 t6 t7)
     ·exact wkG [.go, rg1, bTr, rgG [oo, opI (.iv 2), oo, oo], rg2, bFa, .pre [.keep [3,6,17,18] [2,3,6,12]]] hn (aC h1 <| aC (of_decide_eq_true h4 : t18 = ((2 : Nat) : Int)) <| aC h5 <| aN) (ih _ _ h cx hn l t5 t6 t7)
    ·rcases qaY h with ⟨h5, h⟩ | ⟨h5, h⟩
     ·rcases qaY h with ⟨h6, h⟩ | ⟨h6, h⟩
      ·obtain ⟨h7, h⟩ := qb3 h
       obtain ⟨x8, h9, h⟩ := qaV h
       exact wkG [.go, rg1, bTr, rgG [oo, opI (.iv 3), oo, oo], rg2, bTr, rgG [oo, oo, opI (.mk (qaB (qaI.mk (0 : Int) (qaG.mk false []) [])) ((List.replicate (wI6 (t17.e3 + (1 : Int))).toNat ((qaB (qaI.mk (0 : Int) (qaG.mk false []) [])) : (List T))).map rid)), oo], rgG [oo, oo, oo, .op .ir, opI (.st (qaB x8) (((List.replicate (wI6 (t17.e3 + (1 : Int))).toNat ((qaB (qaI.mk (0 : Int) (qaG.mk false []) [])) : (List T))).set (t17.e3.toNat) (qaB t)).map rid))], rgG [oo, oo, oo, .snap 33 (max 0 (0 + (wI6 (t17.e3 + (1 : Int))).toNat)) (((List.replicate (wI6 (t17.e3 + (1 : Int))).toNat ((qaB (qaI.mk (0 : Int) (qaG.mk false []) [])) : (List T))).set (t17.e3.toNat) (qaB t)).map rid), oo, oo], .pre [.tellB 6 [0,0,1,4], .keep [3,6,17,18] [2,3,6,12]]] hn (aC h1 <| aC (of_decide_eq_true h5 : t18 = ((3 : Nat) : Int)) <| aC h6 <| aC h7.1 <| aC h7.2.1 <| aC h7.2.2 <| aC (q82 _ _ : List.replicate (wI6 (t17.e3 + (1 : Int))).toNat (qaB (qaI.mk (0 : Int) (qaG.mk false []) [])) = (List.replicate (wI6 (t17.e3 + (1 : Int))).toNat ((qaB (qaI.mk (0 : Int) (qaG.mk false []) [])) : (List T))).map rid) <| aC (qkO h9 : 0 ≤ t17.e3) <| aC (q8E h9 (by simp) : t17.e3 < (((wI6 (t17.e3 + (1 : Int))).toNat : Nat) : Int)) <| aC (q8D @qa9 h9 : ((List.replicate (wI6 (t17.e3 + (1 : Int))).toNat ((qaB (qaI.mk (0 : Int) (qaG.mk false []) [])) : (List T))).map rid)[(0 + t17.e3.toNat)]? = some (qaB x8)) <| aC (qe3 _ _ (qaB t) _ : ((List.replicate (wI6 (t17.e3 + (1 : Int))).toNat ((qaB (qaI.mk (0 : Int) (qaG.mk false []) [])) : (List T))).map rid).set (0 + t17.e3.toNat) (qdE (qaB x8) 0 [(T.int .i64 t.Level), (T.bool t.Const.Neg), (T.sl 1 (t.Const.Abs.map qaE)), (T.sl 4 (t.Coefs.map rid))]) = ((List.replicate (wI6 (t17.e3 + (1 : Int))).toNat ((qaB (qaI.mk (0 : Int) (qaG.mk false []) [])) : (List T))).set (t17.e3.toNat) (qaB t)).map rid) <| aC (Nat.zero_le _ : 0 ≤ (0 + t17.e3.toNat)) <| aC (qfA _ _ _ (by simp) : ((((List.replicate (wI6 (t17.e3 + (1 : Int))).toNat ((qaB (qaI.mk (0 : Int) (qaG.mk false []) [])) : (List T))).set (t17.e3.toNat) (qaB t)).map rid).drop 0).take ((wI6 (t17.e3 + (1 : Int))).toNat) = ((List.replicate (wI6 (t17.e3 + (1 : Int))).toNat ((qaB (qaI.mk (0 : Int) (qaG.mk false []) [])) : (List T))).set (t17.e3.toNat) (qaB t)).map rid) <| aC (rfl : (max 0 (0 + (wI6 (t17.e3 + (1 : Int))).toNat)) = (max 0 (0 + (wI6 (t17.e3 + (1 : Int))).toNat))) <| aN) (ih _ _ h cx hn l t5 t6 t7)
      ·exact wkG [.go, rg1, bTr, rgG [oo, opI (.iv 3), oo, oo], rg2, bFa, .pre [.keep [3,6,17,18] [2,3,6,12]]] hn (aC h1 <| aC (of_decide_eq_true h5 : t18 = ((3 : Nat) : Int)) <| aC h6 <| aN) (ih _ _ h cx hn l t5 t6 t7)
     ·cases h
 ·obtain ⟨x2, h3, h⟩ := qaV h
  have h := oinj h; subst h
  exact wk_rd (fuel := 76) [2,3,12] [.go, rg1, bFa, rgG [oo, oo, opI (.call [[0,0,1,4], [0,0,1,4]] [(TV.agg (qaB out)), (TV.agg (qaB t))] (TV.agg (qaB x2))), oo]] _ hn (by kernel_rfl) (aC h1 <| aC (zb4 h3) <| aN)
theorem zfD {K} (ih : qsC K) {cx} (hn : cx.n = 40) (l : Nat) (t5 t6 t7 : T) {b2 out t b12_0 t17 t18} {r} (h : qbS (K + 1) (.c2 b2 out t b12_0 t17 t18) = some r) : qsB cx l t5 t6 t7 (.c2 b2 out t b12_0 t17 t18) r := by
 rw [qbS] at h
 exact q2Q (fuel := 44) [rg2, .pre [.keep [3,6,17,18] [2,3,6,12]]] _ hn (by kernel_rfl) aN (ih _ _ h cx hn l t5 t6 t7)
theorem qpN : ∀ K : Nat, qsC K
 | 0, c, r, h => by rw [qbS] at h; cases h
 | K + 1, .c0 .., r, h => fun cx hn l t5 t6 t7 => zfF (qpN K) hn l t5 t6 t7 h
 | K + 1, .c1 .., r, h => fun cx hn l t5 t6 t7 => zfE (qpN K) hn l t5 t6 t7 h
 | K + 1, .c2 .., r, h => fun cx hn l t5 t6 t7 => zfD (qpN K) hn l t5 t6 t7 h
theorem q5E {K : Nat} {b2 : qaI} {out : qaI} {b12_0 : (List qaH)} {m : qa5} {c : qaG} {r : qaI} (h : qsD K b2 out b12_0 m c = some r) {l : Nat} {t5 t6 t7 : T} : zeH prog 40 (atC qf7 [1,1,0,1,0,0]) (atC qf7 [1,1,0,1,0,1]) (q6I [13,14] [.agg ((qbB m).map C.t), .agg ((qaD c).map C.t)] [(2, .c (C.ptr 2 0)), (3, .c (C.ptr 3 0)), (12, .c (C.fn 126 [Cap.ptr 12 0]))]) (qnO l t5 t6 t7) [(2, .var ((qaB b2).map C.t)), (3, .var ((qaB out).map C.t)), (12, .var [C.t (T.sl 6 (b12_0.map qaA))])] [(2, .var ((qaB b2).map C.t)), (3, .var ((qaB r).map C.t)), (12, .var [C.t (T.sl 6 (b12_0.map qaA))])] :=
 zoU fun cx hn => wk_as (fuel := 50) [3,4,5] [2,3,4,5,12] [rg2, rg2] _ hn (by kernel_rfl) aN fun cx hn => qpN K (.c0 b2 out b12_0 m c) r h cx hn l t5 t6 t7
open Go.Proofs.Try (prog)
inductive qmZ where
 | c0 (p : (List qaH))
def qg4 : Nat → qmZ → Option (List qaH)
 | 0, _ => none
 | K + 1, .c0 p =>
  (qpG K p).bind fun x1 =>
  some x1
def qoU (K : Nat) (p : (List qaH)) : Option (List qaH) := qg4 K (.c0 p)
noncomputable def q47 : Code := qmX prog 67
noncomputable def q7E : qmZ → List Fr
 | .c0 .. => [.code q47]
def q8U : qmZ → St
 | .c0 p => St.init [(tl 6 p qaA)]
def qyR (cx : Cx) (c : qmZ) (r : (List qaH)) : Prop := Wk prog cx (zwQ prog 67 126 [(T.sl 6 (r.map qaA))]) (q7E c) .normal (q8U c)
abbrev qyS (K : Nat) : Prop := ∀ c r, qg4 K c = some r → ∀ cx : Cx, cx.n = 7 → qyR cx c r
theorem q8V {K} (_ : qyS K) {cx} (hn : cx.n = 7) {p} {r} (h : qg4 (K + 1) (.c0 p) = some r) : qyR cx (.c0 p) r := by
 rw [qg4] at h
 obtain ⟨x1, h2, h⟩ := qaV h
 have h := oinj h; subst h
 exact zyC (fuel := 62) [rg1, rgG [oo, opI (.call [[6]] [(tl 6 p qaA)] (tl 6 x1 qaA)), oo, oo], rgG [.op .clo, oo]] _ hn (by kernel_rfl) (aC (qv5 h2) <| aN)
theorem qv4 : ∀ K : Nat, qyS K
 | 0, c, r, h => by rw [qg4] at h; cases h
 | K + 1, .c0 .., r, h => fun cx hn => q8V (qv4 K) hn h
theorem qtI {K : Nat} {p : (List qaH)} {r : (List qaH)} (h : qoU K p = some r) : zpW prog 67 [(tl 6 p qaA)] 126 [(T.sl 6 (r.map qaA))] :=
 zt2 (n := 7) (by kernel_rfl) (by simp) fun cx hn => qv4 K (.c0 p) r h cx hn
open Go.Proofs.Try (prog)
inductive qt5 where
 | c0 (p : (List qaH))
 | c1 (b2 : qaI) (out : qaI) (b12_0 : (List qaH))
def qiO : Nat → qt5 → Option qaI
 | 0, _ => none
 | K + 1, .c0 p =>
  (qoU K p).bind fun x1 =>
  qiO K (.c1 (qaI.mk (0 : Int) (qaG.mk false []) []) (qaI.mk (0 : Int) (qaG.mk false []) []) x1)
 | K + 1, .c1 b2 out b12_0 =>
  (itT K (fun z m c => qsD K b2 z b12_0 m c) out b12_0).bind fun x1 =>
  gd (b12_0.length ≤ 4611686018427387904) <|
  some x1
def q4U (K : Nat) (p : (List qaH)) : Option qaI := qiO K (.c0 p)
noncomputable def qmC : Code := qcK prog 81
noncomputable def zkS : qt5 → List Fr
 | .c0 .. => [.code qmC]
 | .c1 .. => [.code (atC qmC [1,1,0,1,0]), .blk 0, .code (atC qmC [1,1,1])]
def zm9 : qt5 → St
 | .c0 p => St.init [(tl 6 p qaA)]
 | .c1 b2 out b12_0 => ⟨[(2, .c (C.ptr 2 0)), (3, .c (C.ptr 3 0)), (12, .c (C.fn 126 [Cap.ptr 12 0]))], [(2, .var ((qaB b2).map C.t)), (3, .var ((qaB out).map C.t)), (12, .var [C.t (T.sl 6 (b12_0.map qaA))])], []⟩
def q3B (cx : Cx) (c : qt5) (r : qaI) : Prop := Wk prog cx (qd0 prog 81 [[0,0,1,4]] (TV.agg (qaB r))) (zkS c) .normal (zm9 c)
abbrev q3C (K : Nat) : Prop := ∀ c r, qiO K c = some r → ∀ cx : Cx, cx.n = 40 → cx.rd = none → q3B cx c r
theorem znC {K} (ih : q3C K) {cx} (hn : cx.n = 40) (hrd : cx.rd = none) {p} {r} (h : qiO (K + 1) (.c0 p) = some r) : q3B cx (.c0 p) r := by
 rw [qiO] at h
 obtain ⟨x1, h2, h⟩ := qaV h
 exact wkG [rg1, rg3, rgG [oo, .callC [[6]] 126 [(T.sl 6 (x1.map qaA))]], .pre [.tellB 2 [0,0,1,4], .tellB 3 [0,0,1,4], .keep [2,3,12] [2,3,12]]] hn (aC (qtI h2) <| aN) (ih _ _ h cx hn hrd)
theorem znB {K} (_ : q3C K) {cx} (hn : cx.n = 40) (hrd : cx.rd = none) {b2 out b12_0} {r} (h : qiO (K + 1) (.c1 b2 out b12_0) = some r) : q3B cx (.c1 b2 out b12_0) r := by
 rw [qiO] at h
 obtain ⟨x1, h2, h⟩ := qaV h
 obtain ⟨h3, h⟩ := qb3 h
 refine zoB (tm := [(2, .c (C.ptr 2 0)), (3, .c (C.ptr 3 0)), (12, .c (C.fn 126 [Cap.ptr 12 0]))]) (hp := (fun z : qaI => ([(2, .var ((qaB b2).map C.t)), (3, .var ((qaB z).map C.t)), (12, .var [C.t (T.sl 6 (b12_0.map qaA))])] : List (Nat × Blk))) out) (hp' := (fun z : qaI => ([(2, .var ((qaB b2).map C.t)), (3, .var ((qaB z).map C.t)), (12, .var [C.t (T.sl 6 (b12_0.map qaA))])] : List (Nat × Blk))) x1) (f := 126) (caps := [.ptr 12 0])
  (show (atC qmC [1,1,0,1,0]) = .rangeFunc (.tmp 12) #[13,14] (atC qmC [1,1,0,1,0,0]) (atC qmC [1,1,0,1,0,1]) by kernel_rfl) rfl hn hrd (by kernel_rfl) (by kernel_rfl)
  (ztR (j := 12) (HP := fun z : qaI => ([(2, .var ((qaB b2).map C.t)), (3, .var ((qaB z).map C.t)), (12, .var [C.t (T.sl 6 (b12_0.map qaA))])] : List (Nat × Blk))) rfl (by simp) (fun _ => rfl) (fun _ => by kernel_rfl) (fun _ => rfl) (fun _ _ _ _ _ _ _ _ h => q5E h) h3 h2) ?_
 have h := oinj h; subst h
 exact zl9 (fuel := 56) [rg2] _ hn (by kernel_rfl) aN
theorem qyJ : ∀ K : Nat, q3C K
 | 0, c, r, h => by rw [qiO] at h; cases h
 | K + 1, .c0 .., r, h => fun cx hn hrd => znC (qyJ K) hn hrd h
 | K + 1, .c1 .., r, h => fun cx hn hrd => znB (qyJ K) hn hrd h
theorem zfG {K : Nat} {p : (List qaH)} {r : qaI} (h : q4U K p = some r) : qc0 prog 81 [(tl 6 p qaA)] (TV.agg (qaB r)) :=
 zpD [[0,0,1,4]] (by kernel_rfl) (by simp) fun cx hn hrd => qyJ K (.c0 p) r h cx hn hrd
open Go.Proofs.Try (prog)
inductive qkV where
 | c0 (l : (List qbD))
def qgS : Nat → qkV → Option qaI
 | 0, _ => none
 | K + 1, .c0 l =>
  (ql4 K l).bind fun x1 =>
  (q4U K x1).bind fun x3 =>
  some x3
def qlR (K : Nat) (l : (List qbD)) : Option qaI := qgS K (.c0 l)
noncomputable def q0X : Code := qcK prog 37
noncomputable def q2K : qkV → List Fr
 | .c0 .. => [.code q0X]
def q4N : qkV → St
 | .c0 l => St.init [(tl 5 l qaO)]
def qvM (cx : Cx) (c : qkV) (r : qaI) : Prop := Wk prog cx (qd0 prog 37 [[0,0,1,4]] (TV.agg (qaB r))) (q2K c) .normal (q4N c)
abbrev qvN (K : Nat) : Prop := ∀ c r, qgS K c = some r → ∀ cx : Cx, cx.n = 6 → qvM cx c r
theorem q4O {K} (_ : qvN K) {cx} (hn : cx.n = 6) {l} {r} (h : qgS (K + 1) (.c0 l) = some r) : qvM cx (.c0 l) r := by
 rw [qgS] at h
 obtain ⟨x1, h2, h⟩ := qaV h
 obtain ⟨x3, h4, h⟩ := qaV h
 have h := oinj h; subst h
 exact wkR [rg1, rgG [oo, opI (.call [[5]] [(tl 5 l qaO)] (tl 6 x1 qaA)), opI (.call [[6]] [(tl 6 x1 qaA)] (TV.agg (qaB x3))), oo]] hn (aC (qxO h2) <| aC (zfG h4) <| aN)
theorem qtM : ∀ K : Nat, qvN K
 | 0, c, r, h => by rw [qgS] at h; cases h
 | K + 1, .c0 .., r, h => fun cx hn => q4O (qtM K) hn h
theorem qfP {K : Nat} {l : (List qbD)} {r : qaI} (h : qlR K l = some r) : qc0 prog 37 [(tl 5 l qaO)] (TV.agg (qaB r)) :=
 qbG [[0,0,1,4]] (by kernel_rfl) (by simp) fun cx hn => qtM K (.c0 l) r h cx hn
open Go.Proofs.Try (prog)
inductive qlQ where
 | c0 (l : (List qbD)) (n : Int) (most : Int)
 | c1 (l : (List qbD)) (most : Int) (i : Int)
 | c2 (l : (List qbD)) (most : Int) (i : Int) (k : Int)
def qbC : Nat → qlQ → Option Bool
 | 0, _ => none
 | K + 1, .c0 l n most =>
  bif (decide (n < (l.length : Int))) then
   some false
  else
   qbC K (.c1 l most (0 : Int))
 | K + 1, .c1 l most i =>
  bif (decide (i < (l.length : Int))) then
   qbC K (.c2 l most i (0 : Int))
  else
   some true
 | K + 1, .c2 l most i k =>
  bif (decide (k < (4 : Int))) then
   (gi l i).bind fun x2 =>
   bif (decide (k = 0)) then
    bif (decide (most < x2.Exp.e0)) then
     some false
    else
     qbC K (.c2 l most i (wI6 (k + (1 : Int))))
   else
    bif (decide (k = 1)) then
     bif (decide (most < x2.Exp.e1)) then
      some false
     else
      qbC K (.c2 l most i (wI6 (k + (1 : Int))))
    else
     bif (decide (k = 2)) then
      bif (decide (most < x2.Exp.e2)) then
       some false
      else
       qbC K (.c2 l most i (wI6 (k + (1 : Int))))
     else
      bif (decide (k = 3)) then
       bif (decide (most < x2.Exp.e3)) then
        some false
       else
        qbC K (.c2 l most i (wI6 (k + (1 : Int))))
      else
       none
  else
   qbC K (.c1 l most (wI6 (i + (1 : Int))))
def qmS (K : Nat) (l : (List qbD)) (n : Int) (most : Int) : Option Bool := qbC K (.c0 l n most)
noncomputable def qfH : Code := qcK prog 36
noncomputable def q4K : qlQ → List Fr
 | .c0 .. => [.code qfH]
 | .c1 .. => [.code (.loop (atC qfH [1,1,0,1,0,0])), .blk 0, .code (atC qfH [1,1,1])]
 | .c2 .. => [.code (.loop (atC qfH [1,1,0,1,0,0,1,0,0,1,0,0])), .blk 2, .blk 1, .code (atC qfH [1,1,0,1,0,0,1,1]), .lp (atC qfH [1,1,0,1,0,0]), .blk 0, .code (atC qfH [1,1,1])]
def q5V : qlQ → St
 | .c0 l n most => St.init [(tl 5 l qaO), (ti .i64 n), (ti .u8 most)]
 | .c1 l most i => ⟨[(0, vl 5 l qaO), (2, vi .u8 most), (7, vi .i64 i)], [], []⟩
 | .c2 l most i k => ⟨[(0, vl 5 l qaO), (2, vi .u8 most), (7, vi .i64 i), (8, vi .i64 k)], [], []⟩
def qnK (cx : Cx) (c : qlQ) (r : Bool) : Prop := Wk prog cx (qd0 prog 36 [[0]] (TV.c (T.bool r))) (q4K c) .normal (q5V c)
abbrev qnL (K : Nat) : Prop := ∀ c r, qbC K c = some r → ∀ cx : Cx, cx.n = 32 → qnK cx c r
theorem q5Y {K} (ih : qnL K) {cx} (hn : cx.n = 32) {l n most} {r} (h : qbC (K + 1) (.c0 l n most) = some r) : qnK cx (.c0 l n most) r := by
 rw [qbC] at h
 rcases qaY h with ⟨h1, h⟩ | ⟨h1, h⟩
 ·have h := oinj h; subst h
  exact wkR [rg1, rgG [oo, opI (.ln (l.length : Int)), oo, oo], bTr, rg1] hn (aC (qdF l qaO) <| aC h1 <| aN)
 ·exact wkG [rg1, rgG [oo, opI (.ln (l.length : Int)), oo, oo], bFa, rg1, .pre [.keep [0,2,7] []]] hn (aC (qdF l qaO) <| aC h1 <| aN) (ih _ _ h cx hn)
theorem q5X {K} (ih : qnL K) {cx} (hn : cx.n = 32) {l most i} {r} (h : qbC (K + 1) (.c1 l most i) = some r) : qnK cx (.c1 l most i) r := by
 rw [qbC] at h
 rcases qaY h with ⟨h1, h⟩ | ⟨h1, h⟩
 ·exact wkG [.go, rgG [oo, oo, opI (.ln (l.length : Int)), oo], bTr, rg1, .pre [.keep [0,2,7,8] []]] hn (aC (qdF l qaO) <| aC h1 <| aN) (ih _ _ h cx hn)
 ·have h := oinj h; subst h
  exact wkR [.go, rgG [oo, oo, opI (.ln (l.length : Int)), oo], bFa, rg1] hn (aC (qdF l qaO) <| aC h1 <| aN)
theorem q5W {K} (ih : qnL K) {cx} (hn : cx.n = 32) {l most i k} {r} (h : qbC (K + 1) (.c2 l most i k) = some r) : qnK cx (.c2 l most i k) r := by
 rw [qbC] at h
 rcases qaY h with ⟨h1, h⟩ | ⟨h1, h⟩
 ·obtain ⟨x2, h3, h⟩ := qaV h
  rcases qaY h with ⟨h4, h⟩ | ⟨h4, h⟩
  ·rcases qaY h with ⟨h5, h⟩ | ⟨h5, h⟩
   ·have h := oinj h; subst h
    exact wkR [.go, rg2, bTr, rgG [oo, oo, oo, opI (.ix (qaO x2)), oo, opI (.ia 0), oo, oo, oo], bTr, rg1] hn (aC h1 <| aC (qb2 h3) <| aC (qfK qaO h3) <| aC (of_decide_eq_true h4 : k = ((0 : Nat) : Int)) <| aC h5 <| aN)
   ·exact wkG [.go, rg2, bTr, rgG [oo, oo, oo, opI (.ix (qaO x2)), oo, opI (.ia 0), oo, oo, oo], bFa, rg3, .pre [.keep [0,2,7,8] []]] hn (aC h1 <| aC (qb2 h3) <| aC (qfK qaO h3) <| aC (of_decide_eq_true h4 : k = ((0 : Nat) : Int)) <| aC h5 <| aN) (ih _ _ h cx hn)
  ·rcases qaY h with ⟨h5, h⟩ | ⟨h5, h⟩
   ·rcases qaY h with ⟨h6, h⟩ | ⟨h6, h⟩
    ·have h := oinj h; subst h
     exact wkR [.go, rg2, bTr, rgG [oo, oo, oo, opI (.ix (qaO x2)), oo, opI (.ia 1), oo, oo, oo], bTr, rg1] hn (aC h1 <| aC (qb2 h3) <| aC (qfK qaO h3) <| aC (of_decide_eq_true h5 : k = ((1 : Nat) : Int)) <| aC h6 <| aN)
    ·exact wkG [.go, rg2, bTr, rgG [oo, oo, oo, opI (.ix (qaO x2)), oo, opI (.ia 1), oo, oo, oo], bFa, rg3, .pre [.keep [0,2,7,8] []]] hn (aC h1 <| aC (qb2 h3) <| aC (qfK qaO h3) <| aC (of_decide_eq_true h5 : k = ((1 : Nat) : Int)) <| aC h6 <| aN) (ih _ _ h cx hn)
   ·rcases qaY h with ⟨h6, h⟩ | ⟨h6, h⟩
    ·rcases qaY h with ⟨h7, h⟩ | ⟨h7, h⟩
     ·have h := oinj h; subst h
      exact wkR [.go, rg2, bTr, rgG [oo, oo, oo, opI (.ix (qaO x2)), oo, opI (.ia 2), oo, oo, oo], bTr, rg1] hn (aC h1 <| aC (qb2 h3) <| aC (qfK qaO h3) <| aC (of_decide_eq_true h6 : k = ((2 : Nat) : Int)) <| aC h7 <| aN)
     ·exact wkG [.go, rg2, bTr, rgG [oo, oo, oo, opI (.ix (qaO x2)), oo, opI (.ia 2), oo, oo, oo], bFa, rg3, .pre [.keep [0,2,7,8] []]] hn (aC h1 <| aC (qb2 h3) <| aC (qfK qaO h3) <| aC (of_decide_eq_true h6 : k = ((2 : Nat) : Int)) <| aC h7 <| aN) (ih _ _ h cx hn)
    ·rcases qaY h with ⟨h7, h⟩ | ⟨h7, h⟩
     ·rcases qaY h with ⟨h8, h⟩ | ⟨h8, h⟩
      ·have h := oinj h; subst h
       exact wkR [.go, rg2, bTr, rgG [oo, oo, oo, opI (.ix (qaO x2)), oo, opI (.ia 3), oo, oo, oo], bTr, rg1] hn (aC h1 <| aC (qb2 h3) <| aC (qfK qaO h3) <| aC (of_decide_eq_true h7 : k = ((3 : Nat) : Int)) <| aC h8 <| aN)
      ·exact wkG [.go, rg2, bTr, rgG [oo, oo, oo, opI (.ix (qaO x2)), oo, opI (.ia 3), oo, oo, oo], bFa, rg3, .pre [.keep [0,2,7,8] []]] hn (aC h1 <| aC (qb2 h3) <| aC (qfK qaO h3) <| aC (of_decide_eq_true h7 : k = ((3 : Nat) : Int)) <| aC h8 <| aN) (ih _ _ h cx hn)
     ·cases h
 ·exact wkG [.go, rg2, bFa, rg3, .pre [.keep [0,2,7] []]] hn (aC h1 <| aN) (ih _ _ h cx hn)
theorem qlP : ∀ K : Nat, qnL K
 | 0, c, r, h => by rw [qbC] at h; cases h
 | K + 1, .c0 .., r, h => fun cx hn => q5Y (qlP K) hn h
 | K + 1, .c1 .., r, h => fun cx hn => q5X (qlP K) hn h
 | K + 1, .c2 .., r, h => fun cx hn => q5W (qlP K) hn h
theorem qjU {K : Nat} {l : (List qbD)} {n : Int} {most : Int} {r : Bool} (h : qmS K l n most = some r) : qc0 prog 36 [(tl 5 l qaO), (ti .i64 n), (ti .u8 most)] (TV.c (T.bool r)) :=
 qbG [[0]] (by kernel_rfl) (by simp) fun cx hn => qlP K (.c0 l n most) r h cx hn
def zbI (m : qbD) : Prop := (-128 ≤ m.Coef ∧ m.Coef < 128) ∧ (0 ≤ m.Exp.e0 ∧ m.Exp.e0 < 256) ∧ (0 ≤ m.Exp.e1 ∧ m.Exp.e1 < 256) ∧ (0 ≤ m.Exp.e2 ∧ m.Exp.e2 < 256) ∧ (0 ≤ m.Exp.e3 ∧ m.Exp.e3 < 256)
def tmOf (m : qbD) : Tm := ⟨m.Coef, ⟨m.Exp.e0.toNat, m.Exp.e1.toNat, m.Exp.e2.toNat, m.Exp.e3.toNat⟩⟩
def FewOk (l : List qbD) (n most : Nat) : Prop := l.length ≤ n ∧ ∀ m ∈ l, m.Exp.e0 ≤ most ∧ m.Exp.e1 ≤ most ∧ m.Exp.e2 ≤ most ∧ m.Exp.e3 ≤ most
theorem zxP {l : List qbD} {most : Nat} (hl : l.length ≤ 1000000) : ∀ (d i : Nat), i + d = l.length →
    ∃ b, Ev (fun K => qbC K (.c1 l (most : Int) (i : Int))) b ∧ (b = true → ∀ m ∈ l.drop i, m.Exp.e0 ≤ most ∧ m.Exp.e1 ≤ most ∧ m.Exp.e2 ≤ most ∧ m.Exp.e3 ≤ most)
  | 0, i, hi => by
    refine ⟨true, ?_, fun _ m hm => by rw [List.drop_eq_nil_of_le (by omega)] at hm; cases hm⟩
    refine qaT ?_
    simp only [qbC]
    exact ev_f (by simp; omega) (qa3 _)
  | d + 1, i, hi => by
    obtain ⟨t, ht⟩ : ∃ c, l[i]? = some c := ⟨_, List.getElem?_eq_getElem (by omega)⟩
    obtain ⟨b, h1, h2⟩ := zxP (most := most) hl d (i + 1) (by omega)
    have hg : gi l (i : Int) = some t := za3 ht
    have w0 : wI6 ((0 : Int) + 1) = 1 := by decide
    have w1 : wI6 ((1 : Int) + 1) = 2 := by decide
    have w2 : wI6 ((2 : Int) + 1) = 3 := by decide
    have w3 : wI6 ((3 : Int) + 1) = 4 := by decide
    have wi : wI6 ((i : Int) + 1) = ((i + 1 : Nat) : Int) := by rw [qdB (by omega)]; omega
    have hdr : l.drop i = t :: l.drop (i + 1) := by
      have hlt : i < l.length := by omega
      rw [List.drop_eq_getElem_cons hlt]
      congr 1
      rw [List.getElem?_eq_getElem hlt] at ht
      exact Option.some.inj ht
    by_cases hc : t.Exp.e0 ≤ most ∧ t.Exp.e1 ≤ most ∧ t.Exp.e2 ≤ most ∧ t.Exp.e3 ≤ most
    · refine ⟨b, ?_, fun hb m hm => ?_⟩
      · refine qaT ?_
        simp only [qbC]
        refine ev_t (by simp; omega) ?_
        refine qaT ?_
        simp only [qbC, w0]
        refine ev_t (by simp) (qb6 hg (ev_t rfl (ev_f (by simp; omega) ?_)))
        refine qaT ?_
        simp only [qbC, w1]
        refine ev_t (by simp) (qb6 hg (ev_f rfl (ev_t rfl (ev_f (by simp; omega) ?_))))
        refine qaT ?_
        simp only [qbC, w2]
        refine ev_t (by simp) (qb6 hg (ev_f rfl (ev_f rfl (ev_t rfl (ev_f (by simp; omega) ?_)))))
        refine qaT ?_
        simp only [qbC, w3]
        refine ev_t (by simp) (qb6 hg (ev_f rfl (ev_f rfl (ev_f rfl (ev_t rfl (ev_f (by simp; omega) ?_))))))
        refine qaT ?_
        simp only [qbC, wi]
        exact ev_f (by simp) h1
      · rw [hdr] at hm
        rcases List.mem_cons.1 hm with rfl | hm
        · exact hc
        · exact h2 hb m hm
    · refine ⟨false, ?_, fun hb => by cases hb⟩
      refine qaT ?_
      simp only [qbC]
      refine ev_t (by simp; omega) ?_
      refine qaT ?_
      simp only [qbC, w0]
      refine ev_t (by simp) (qb6 hg (ev_t rfl (znX (fun _ => qa3 _) fun h0 => ?_)))
      refine qaT ?_
      simp only [qbC, w1]
      refine ev_t (by simp) (qb6 hg (ev_f rfl (ev_t rfl (znX (fun _ => qa3 _) fun h1 => ?_))))
      refine qaT ?_
      simp only [qbC, w2]
      refine ev_t (by simp) (qb6 hg (ev_f rfl (ev_f rfl (ev_t rfl (znX (fun _ => qa3 _) fun h2 => ?_)))))
      refine qaT ?_
      simp only [qbC, w3]
      refine ev_t (by simp) (qb6 hg (ev_f rfl (ev_f rfl (ev_f rfl (ev_t rfl (znX (fun _ => qa3 _) fun h3 => ?_))))))
      have h0 := of_decide_eq_false h0
      have h1 := of_decide_eq_false h1
      have h2 := of_decide_eq_false h2
      have h3 := of_decide_eq_false h3
      exact absurd ⟨by omega, by omega, by omega, by omega⟩ hc
theorem few_ev (l : List qbD) {n most : Nat} (hn : n ≤ 1000000) : ∃ b, Ev (fun K => qmS K l (n : Int) (most : Int)) b ∧ (b = true → FewOk l n most) := by
  by_cases h : n < l.length
  · refine ⟨false, ?_, fun h => by cases h⟩
    refine qaT ?_
    simp only [qmS, qbC]
    exact ev_t (by simp; omega) (qa3 _)
  · obtain ⟨b, h1, h2⟩ := zxP (l := l) (most := most) (by omega) l.length 0 (by omega)
    refine ⟨b, ?_, fun hb => ⟨by omega, h2 hb⟩⟩
    refine qaT ?_
    simp only [qmS, qbC]
    exact ev_f (by simp; omega) h1
theorem zrM {z : Int} (h : 0 < z) (h1 : z < 4294967296) : digs z = [z] := by
  rw [zbA h, Int.emod_eq_of_lt (by omega) h1, Int.ediv_eq_zero_of_lt (by omega) h1, qhD]
theorem zx0 {n : Int} (h : -128 ≤ n ∧ n < 128) : Ev (fun K => qmR K n) (mkI n) := by
  refine qaT ?_
  simp only [qmR, qhF]
  by_cases h1 : n < 0
  · refine ev_t (decide_eq_true h1) (qeQ (qa3 _) ?_)
    have e : (n.natAbs : Int) = -n := by omega
    rw [qdB (x := n) (by omega), qdB (by omega), q44, Int.emod_eq_of_lt (by omega) (by omega)]
    unfold mkI
    rw [decide_eq_true h1, e, zrM (by omega) (by omega)]
    simp
  · refine ev_f (decide_eq_false h1) ?_
    by_cases h2 : n = 0
    · subst h2
      exact ev_t rfl (qeQ (qa3 _) q3T.symm)
    · refine ev_f (decide_eq_false h2) (qeQ (qa3 _) ?_)
      have e : (n.natAbs : Int) = n := by omega
      rw [q44, Int.emod_eq_of_lt (by omega) (by omega)]
      unfold mkI
      rw [decide_eq_false h1, e, zrM (by omega) (by omega)]
theorem zoJ {l : List qbD} {m : qbD} (hm : zbI m) {i : Nat} (hi : l[i]? = some m) :
    (∀ {r}, Ev (fun K => qaZ K (.c3 [(tmOf m).enc] l (wI6 ((i : Int) + 1)))) r → Ev (fun K => qaZ K (.c2 ⟨mkI m.Coef, ⟨0, 0, 0, 0⟩⟩ l (i : Int) 0)) r) ∧
    (∀ {acc r}, acc.length < 1000000 → Ev (fun K => qaZ K (.c3 (acc ++ [(tmOf m).enc]) l (wI6 ((i : Int) + 1)))) r → Ev (fun K => qaZ K (.c4 ⟨mkI m.Coef, ⟨0, 0, 0, 0⟩⟩ acc l (i : Int) 0)) r) := by
  have hg : gi l (i : Int) = some m := za3 hi
  have w0 : wI6 ((0 : Int) + 1) = 1 := by decide
  have w1 : wI6 ((1 : Int) + 1) = 2 := by decide
  have w2 : wI6 ((2 : Int) + 1) = 3 := by decide
  have w3 : wI6 ((3 : Int) + 1) = 4 := by decide
  obtain ⟨hc, h0, h1, h2, h3⟩ := hm
  have e : (⟨mkI m.Coef, ⟨m.Exp.e0, m.Exp.e1, m.Exp.e2, m.Exp.e3⟩⟩ : qaH) = (tmOf m).enc := by
    unfold tmOf Tm.enc Mn.enc
    simp only [Int.toNat_of_nonneg h0.1, Int.toNat_of_nonneg h1.1, Int.toNat_of_nonneg h2.1, Int.toNat_of_nonneg h3.1]
  refine ⟨fun {r} h => ?_, fun {acc r} hal h => ?_⟩
  · refine qaT ?_
    simp only [qaZ, w0]
    refine ev_t (by simp) (qb6 hg (ev_t rfl ?_))
    rw [qdB (x := m.Exp.e0) (by omega)]
    refine qaT ?_
    simp only [qaZ, w1]
    refine ev_t (by simp) (qb6 hg (ev_f rfl (ev_t rfl ?_)))
    rw [qdB (x := m.Exp.e1) (by omega)]
    refine qaT ?_
    simp only [qaZ, w2]
    refine ev_t (by simp) (qb6 hg (ev_f rfl (ev_f rfl (ev_t rfl ?_))))
    rw [qdB (x := m.Exp.e2) (by omega)]
    refine qaT ?_
    simp only [qaZ, w3]
    refine ev_t (by simp) (qb6 hg (ev_f rfl (ev_f rfl (ev_f rfl (ev_t rfl ?_)))))
    rw [qdB (x := m.Exp.e3) (by omega)]
    refine qaT ?_
    simp only [qaZ, e]
    exact ev_f (by simp) h
  · refine qaT ?_
    simp only [qaZ, w0]
    refine ev_t (by simp) (qb6 hg (ev_t rfl ?_))
    rw [qdB (x := m.Exp.e0) (by omega)]
    refine qaT ?_
    simp only [qaZ, w1]
    refine ev_t (by simp) (qb6 hg (ev_f rfl (ev_t rfl ?_)))
    rw [qdB (x := m.Exp.e1) (by omega)]
    refine qaT ?_
    simp only [qaZ, w2]
    refine ev_t (by simp) (qb6 hg (ev_f rfl (ev_f rfl (ev_t rfl ?_))))
    rw [qdB (x := m.Exp.e2) (by omega)]
    refine qaT ?_
    simp only [qaZ, w3]
    refine ev_t (by simp) (qb6 hg (ev_f rfl (ev_f rfl (ev_f rfl (ev_t rfl ?_)))))
    rw [qdB (x := m.Exp.e3) (by omega)]
    refine qaT ?_
    simp only [qaZ, e]
    exact ev_f (by simp) (qhC (by simp; omega) h)
theorem zoK {l : List qbD} (hm : ∀ m ∈ l, zbI m) (hl : l.length ≤ 1000000) : ∀ (d i : Nat), i + d = l.length →
    Ev (fun K => qaZ K (.c3 ((l.take i).map fun m => (tmOf m).enc) l (i : Int))) (l.map fun m => (tmOf m).enc)
  | 0, i, hi => by
    refine qaT ?_
    simp only [qaZ]
    rw [List.take_of_length_le (by omega)]
    exact ev_f (by simp; omega) (qa3 _)
  | d + 1, i, hi => by
    obtain ⟨t, ht⟩ : ∃ c, l[i]? = some c := ⟨_, List.getElem?_eq_getElem (by omega)⟩
    have hok := hm t (List.mem_of_getElem? ht)
    have ih := zoK hm hl d (i + 1) (by omega)
    refine qaT ?_
    simp only [qaZ]
    refine ev_t (by simp; omega) (qb6 (za3 ht) (qaP (zx0 hok.1) ?_))
    refine (zoJ hok ht).2 (by simp; omega) ?_
    have wi : wI6 ((i : Int) + 1) = ((i + 1 : Nat) : Int) := by rw [qdB (by omega)]; omega
    rw [wi]
    have e : ((l.take i).map fun m => (tmOf m).enc) ++ [(tmOf t).enc] = (l.take (i + 1)).map fun m => (tmOf m).enc := by rw [List.take_add_one, ht, List.map_append]; rfl
    rw [e]
    exact ih
theorem zs3 {l : List qbD} (hm : ∀ m ∈ l, zbI m) (hl : l.length ≤ 1000000) : Ev (fun K => ql4 K l) ((l.map tmOf).map Tm.enc) := by
  rw [List.map_map]
  refine qaT ?_
  simp only [ql4, qaZ]
  refine qaT ?_
  simp only [qaZ]
  cases l with
  | nil => exact ev_f (by simp) (qa3 _)
  | cons t l =>
    have hok := hm t (by simp)
    have ht : (t :: l)[0]? = some t := rfl
    refine ev_t (decide_eq_true (by simp only [List.length_cons]; omega)) (qb6 (x := t) rfl (qaP (zx0 hok.1) ?_))
    refine (zoJ hok ht).1 ?_
    have wi : wI6 (((0 : Nat) : Int) + 1) = ((1 : Nat) : Int) := by decide
    rw [wi]
    exact zoK hm hl l.length 1 (by simp only [List.length_cons]; omega)
def qxN (lv e : Nat) (t : P) : P := if e = 0 then t else .p lv (List.replicate e (.k 0) ++ [t])
theorem ziU {lv e : Nat} {t : P} (h : t.isZ = false) : (qxN lv e t).isZ = false := by
  unfold qxN; split
  · exact h
  · rfl
theorem znO {lv e : Nat} {t : P} (h : t.isZ = false) (hC : P.C (lv - 1) t) (h1 : 1 ≤ lv) : P.C lv (qxN lv e t) := by
  unfold qxN; split
  · exact zuT (by omega) hC
  · rename_i he
    rw [P.C]
    refine ⟨h1, Nat.le_refl _, by simp; omega, zwS fun c hc => ?_, fun z hz => ?_⟩
    · rcases List.mem_append.1 hc with hc | hc
      · rw [(List.mem_replicate.1 hc).2, P.C]; trivial
      · rw [List.mem_singleton.1 hc]; exact hC
    · rw [List.getLast?_append] at hz
      simp at hz
      rw [← hz]; exact h
theorem znN {n m lv e : Nat} {t : P} (h : P.W n m t) (hm : e + 1 ≤ m) : P.W n m (qxN lv e t) := by
  unfold qxN; split
  · exact h
  · rw [P.W]
    refine ⟨by simp; omega, zwN fun c hc => ?_⟩
    rcases List.mem_append.1 hc with hc | hc
    · rw [(List.mem_replicate.1 hc).2, P.W]; have := qfL n; simpa using this
    · rw [List.mem_singleton.1 hc]; exact h
theorem zt6 (ρ : Nat → Rat) (x : Rat) (t : P) : ∀ e : Nat, P.evs ρ x (List.replicate e (.k 0) ++ [t]) = x ^ e * t.ev ρ
  | 0 => by simp only [List.replicate_zero, List.nil_append, P.evs]; grind
  | e + 1 => by
    rw [List.replicate_succ, List.cons_append, P.evs, zt6 ρ x t e, P.ev, Rat.pow_succ, Rat.intCast_zero]; grind
theorem zg0 (ρ : Nat → Rat) (lv e : Nat) (t : P) : (qxN lv e t).ev ρ = ρ lv ^ e * t.ev ρ := by
  unfold qxN; split
  · rename_i h; rw [h]; grind
  · rw [P.ev, zt6]
def zr2 (t : Tm) : P := qxN 4 t.m.e3 (qxN 3 t.m.e2 (qxN 2 t.m.e1 (qxN 1 t.m.e0 (.k t.c))))
theorem zyL {t : Tm} (h : t.c ≠ 0) : P.C 4 (zr2 t) := by
  have z0 : (P.k t.c).isZ = false := by simp [P.isZ, h]
  have z1 := ziU (lv := 1) (e := t.m.e0) z0
  have z2 := ziU (lv := 2) (e := t.m.e1) z1
  have z3 := ziU (lv := 3) (e := t.m.e2) z2
  exact znO z3 (znO z2 (znO z1 (znO z0 (by rw [P.C]; trivial) (by omega)) (by omega)) (by omega)) (by omega)
theorem zvA (ρ : Nat → Rat) (t : Tm) : (zr2 t).ev ρ = t.ev ρ := by
  unfold zr2
  rw [zg0, zg0, zg0, zg0, P.ev, Tm.ev, Mn.ev]
  grind
def zbJ (m : Nat) (t : Tm) : Prop := t.m.e0 < m ∧ t.m.e1 < m ∧ t.m.e2 < m ∧ t.m.e3 < m
theorem zyK {n m : Nat} {t : Tm} (h : (t.c.natAbs : Int) < 4294967296 ^ n) (hm : zbJ m t) : P.W n m (zr2 t) := by
  obtain ⟨h0, h1, h2, h3⟩ := hm
  exact znN (znN (znN (znN (by rw [P.W]; exact h) h0) h1) h2) h3
theorem zvS (e : Nat) (t : P) : (List.replicate (e + 1) (qaB (qaI.mk (0 : Int) (qaG.mk false []) []))).set e (qaB t.enc) = P.raws (List.replicate e (.k 0) ++ [t]) := by
  rw [znE, znD]
  congr 1
  rw [List.replicate_succ', List.set_append_right _ _ (by simp)]
  simp
theorem zyV (e : Nat) : gid qcA (List.replicate (e + 1) (qaB (qaI.mk (0 : Int) (qaG.mk false []) []))) (e : Int) = some (P.k 0).enc := by
  rw [znE]
  exact qjR (by rw [List.getElem?_replicate, if_pos (by omega)])
def znH (t : Tm) : Nat → P
  | 0 => .k t.c
  | 1 => qxN 1 t.m.e0 (.k t.c)
  | 2 => qxN 2 t.m.e1 (qxN 1 t.m.e0 (.k t.c))
  | 3 => qxN 3 t.m.e2 (qxN 2 t.m.e1 (qxN 1 t.m.e0 (.k t.c)))
  | _ => zr2 t
theorem ztP {lv e : Nat} (he : 0 < e) (t : P) : (qxN lv e t).enc = ⟨(lv : Int), ⟨false, []⟩, (List.replicate (wI6 ((e : Int) + 1)).toNat (qaB (qaI.mk (0 : Int) (qaG.mk false []) []))).set (e : Int).toNat (qaB t.enc)⟩ ∨ 9223372036854775807 ≤ e := by
  by_cases h : 9223372036854775807 ≤ e
  · exact .inr h
  · left
    rw [qdB (by omega), show ((e : Int) + 1).toNat = e + 1 by omega, Int.toNat_natCast, zvS]
    unfold qxN
    rw [if_neg (by omega), P.enc]
theorem zy3 {n m : Nat} (hn : n + 1 ≤ 1000000) (hm : m ≤ 1000000) (b2 : qaI) (b12 : List qaH) {t : Tm} {out : P} (hC : P.C 4 out) (hW : P.W n m out) (hc : t.c ≠ 0) (ht : (t.c.natAbs : Int) < 4294967296 ^ n) (he : zbJ m t) :
    ∃ r, P.C 4 r ∧ P.W (n + 1) m r ∧ Ev (fun K => qsD K b2 out.enc b12 t.m.enc (mkI t.c)) r.enc ∧ ∀ ρ, r.ev ρ = out.ev ρ + t.ev ρ := by
  obtain ⟨r, h1, h2, h3, h4⟩ := zkN (n := n) (m := m) hn (by have := he.1; omega) hm 4 out (zr2 t) hC (zyL hc) hW (zyK ht he)
  refine ⟨r, h1, h2, ?_, fun ρ => by rw [h4 ρ, zvA]⟩
  obtain ⟨e0, e1, e2, e3⟩ := he
  have w0 : wI6 ((0 : Int) + 1) = 1 := by decide
  have w1 : wI6 ((1 : Int) + 1) = 2 := by decide
  have w2 : wI6 ((2 : Int) + 1) = 3 := by decide
  have w3 : wI6 ((3 : Int) + 1) = 4 := by decide
  have wi : ∀ e : Nat, e < m → wI6 ((e : Int) + 1) = (e : Int) + 1 := fun e h => qdB (by omega)
  have nz : ∀ {lv e : Nat} (t : P), 0 < e → e < m → (⟨(lv : Int), ⟨false, []⟩, (List.replicate (wI6 ((e : Int) + 1)).toNat (qaB (qaI.mk (0 : Int) (qaG.mk false []) []))).set (e : Int).toNat (qaB t.enc)⟩ : qaI) = (qxN lv e t).enc := fun t h h' => by
    rcases ztP h t with h | h
    · exact h.symm
    · omega
  have zz : ∀ {lv : Nat} (t : P), t = qxN lv 0 t := fun t => rfl
  have rg : ∀ e : Nat, e < m → gid qcA (List.replicate (wI6 ((e : Int) + 1)).toNat (qaB (qaI.mk (0 : Int) (qaG.mk false []) []))) (e : Int) = some (P.k 0).enc := fun e h => by
    rw [wi e h, show ((e : Int) + 1).toNat = e + 1 by omega]
    exact zyV e
  obtain ⟨c, ⟨x0, x1, x2, x3⟩⟩ := t
  refine qaT ?_
  simp only [qsD, qbS]
  have g0 : Ev (fun K => qbS K (.c2 b2 out.enc (znH ⟨c, ⟨x0, x1, x2, x3⟩⟩ 4).enc b12 (Mn.mk x0 x1 x2 x3).enc 3)) r.enc := by
    refine qaT ?_
    simp only [qbS, w3]
    refine qaT ?_
    simp only [qbS]
    exact ev_f rfl (qaP h3 (qa3 _))
  have g1 : Ev (fun K => qbS K (.c2 b2 out.enc (znH ⟨c, ⟨x0, x1, x2, x3⟩⟩ 3).enc b12 (Mn.mk x0 x1 x2 x3).enc 2)) r.enc := by
    refine qaT ?_
    simp only [qbS, w2]
    refine qaT ?_
    simp only [qbS, w3]
    refine ev_t rfl (ev_f rfl (ev_f rfl (ev_f rfl (ev_t rfl ?_))))
    by_cases h : 0 < x3
    · refine ev_t (decide_eq_true (by show (0 : Int) < (x3 : Int); omega)) (qhC (by rw [show (Mn.mk x0 x1 x2 x3).enc.e3 = (x3 : Int) from rfl, wi x3 e3]; simp only at e3; omega) (qb6 (rg x3 e3) ?_))
      have := nz (lv := 4) (znH ⟨c, ⟨x0, x1, x2, x3⟩⟩ 3) h e3
      simp only [Mn.enc] at this ⊢ g0
      rw [show ((4 : Nat) : Int) = 4 from rfl] at this
      rw [this]
      exact g0
    · have h : x3 = 0 := by omega
      subst h
      exact ev_f rfl g0
  have g2 : Ev (fun K => qbS K (.c2 b2 out.enc (znH ⟨c, ⟨x0, x1, x2, x3⟩⟩ 2).enc b12 (Mn.mk x0 x1 x2 x3).enc 1)) r.enc := by
    refine qaT ?_
    simp only [qbS, w1]
    refine qaT ?_
    simp only [qbS, w2]
    refine ev_t rfl (ev_f rfl (ev_f rfl (ev_t rfl ?_)))
    by_cases h : 0 < x2
    · refine ev_t (decide_eq_true (by show (0 : Int) < (x2 : Int); omega)) (qhC (by rw [show (Mn.mk x0 x1 x2 x3).enc.e2 = (x2 : Int) from rfl, wi x2 e2]; simp only at e2; omega) (qb6 (rg x2 e2) ?_))
      have := nz (lv := 3) (znH ⟨c, ⟨x0, x1, x2, x3⟩⟩ 2) h e2
      simp only [Mn.enc] at this ⊢ g1
      rw [show ((3 : Nat) : Int) = 3 from rfl] at this
      rw [this]
      exact g1
    · have h : x2 = 0 := by omega
      subst h
      exact ev_f rfl g1
  have g3 : Ev (fun K => qbS K (.c2 b2 out.enc (znH ⟨c, ⟨x0, x1, x2, x3⟩⟩ 1).enc b12 (Mn.mk x0 x1 x2 x3).enc 0)) r.enc := by
    refine qaT ?_
    simp only [qbS, w0]
    refine qaT ?_
    simp only [qbS, w1]
    refine ev_t rfl (ev_f rfl (ev_t rfl ?_))
    by_cases h : 0 < x1
    · refine ev_t (decide_eq_true (by show (0 : Int) < (x1 : Int); omega)) (qhC (by rw [show (Mn.mk x0 x1 x2 x3).enc.e1 = (x1 : Int) from rfl, wi x1 e1]; simp only at e1; omega) (qb6 (rg x1 e1) ?_))
      have := nz (lv := 2) (znH ⟨c, ⟨x0, x1, x2, x3⟩⟩ 1) h e1
      simp only [Mn.enc] at this ⊢ g2
      rw [show ((2 : Nat) : Int) = 2 from rfl] at this
      rw [this]
      exact g2
    · have h : x1 = 0 := by omega
      subst h
      exact ev_f rfl g2
  refine qaT ?_
  simp only [qbS, w0]
  refine ev_t rfl (ev_t rfl ?_)
  by_cases h : 0 < x0
  · refine ev_t (decide_eq_true (by show (0 : Int) < (x0 : Int); omega)) (qhC (by rw [show (Mn.mk x0 x1 x2 x3).enc.e0 = (x0 : Int) from rfl, wi x0 e0]; simp only at e0; omega) (qb6 (rg x0 e0) ?_))
    have := nz (lv := 1) (znH ⟨c, ⟨x0, x1, x2, x3⟩⟩ 0) h e0
    simp only [Mn.enc] at this ⊢ g3
    rw [show ((1 : Nat) : Int) = 1 from rfl] at this
    rw [show qaB { Level := 0, Const := mkI c, Coefs := [] } = qaB (znH ⟨c, ⟨x0, x1, x2, x3⟩⟩ 0).enc from rfl, this]
    exact g3
  · have h : x0 = 0 := by omega
    subst h
    exact ev_f rfl g3
theorem it_of {n m : Nat} (hm : m ≤ 1000000) (b2 : qaI) (b12 : List qaH) : ∀ (rest : List Tm) (acc : P) (k : Nat), n + k + rest.length ≤ 1000000 → (∀ t ∈ rest, t.c ≠ 0 ∧ (t.c.natAbs : Int) < 4294967296 ^ n ∧ zbJ m t) → P.C 4 acc → P.W (n + k) m acc →
    ∃ r, P.C 4 r ∧ P.W (n + k + rest.length) m r ∧ Ev (fun K => itT K (fun z m c => qsD K b2 z b12 m c) acc.enc (rest.map Tm.enc)) r.enc ∧ ∀ ρ, r.ev ρ = acc.ev ρ + sumT ρ rest
  | [], acc, k, hk, hr, hC, hW => ⟨acc, hC, hW, qa3 _, fun ρ => by rw [sumT]; grind⟩
  | t :: rest, acc, k, hk, hr, hC, hW => by
    obtain ⟨hc, ht, he⟩ := hr t (by simp)
    simp only [List.length_cons] at hk ⊢
    have ht' : (t.c.natAbs : Int) < 4294967296 ^ (n + k) := by have := qxJ (m := n) (n := n + k) (by omega); omega
    obtain ⟨r, h1, h2, h3, h4⟩ := zy3 (n := n + k) (by omega) hm b2 b12 hC hW hc ht' he
    obtain ⟨q, k1, k2, k3, k4⟩ := it_of hm b2 b12 rest r (k + 1) (by omega) (fun t h => hr t (by simp [h])) h1 h2
    refine ⟨q, k1, ?_, ?_, fun ρ => by rw [k4 ρ, h4 ρ, sumT]; grind⟩
    · rw [show n + k + (rest.length + 1) = n + (k + 1) + rest.length by omega]; exact k2
    · have sa := qrH ht (by omega)
      have hN := qkE sa.1 (by have := sa.2; omega)
      rw [qcY] at hN
      exact qaP hN (qaP h3 k3)
theorem ziC {n m : Nat} {l out : List Tm} (h : zzL l out) (hs : ((sumA l : Nat) : Int) < 4294967296 ^ n) (he : ∀ t ∈ l, zbJ m t) : ∀ t ∈ out, t.c ≠ 0 ∧ (t.c.natAbs : Int) < 4294967296 ^ n ∧ zbJ m t := by
  intro t ht
  obtain ⟨h1, s, h2, h3⟩ := h.mem t ht
  have h4 := zq4 ht
  have h5 := h.abs
  have h6 := he s h2
  unfold zbJ at h6 ⊢
  rw [h3] at h6
  exact ⟨h1, by omega, h6⟩
theorem znA {n m : Nat} {l : List Tm} (hm : m ≤ 1000000) (hn : n + l.length ≤ 1000000) (hs : ((sumA l : Nat) : Int) < 4294967296 ^ n) (he : ∀ t ∈ l, zbJ m t) :
    ∃ r, P.C 4 r ∧ P.W (n + l.length) m r ∧ Ev (fun K => q4U K (l.map Tm.enc)) r.enc ∧ ∀ ρ, r.ev ρ = sumT ρ l := by
  obtain ⟨out, h1, h2⟩ := qu1 (l := l) (n := n) (by omega) (by omega) hs
  have hol := h2.len
  obtain ⟨r, k1, k2, k3, k4⟩ := it_of (n := n) hm ⟨0, ⟨false, []⟩, []⟩ (out.map Tm.enc) out (.k 0) 0 (by omega) (ziC h2 hs he) (by rw [P.C]; trivial) (by rw [P.W]; have := qfL (n + 0); simpa using this)
  refine ⟨r, k1, zpS (by omega) k2, ?_, fun ρ => by rw [k4 ρ, h2.ev, P.ev, Rat.intCast_zero, Rat.zero_add]⟩
  refine qaT ?_
  simp only [q4U, qiO]
  refine qaP (x := out.map Tm.enc) ?_ ?_
  · refine qaT ?_
    simp only [qoU, qg4]
    exact qaP h1 (qa3 _)
  · refine qaT ?_
    simp only [qiO]
    rw [P.enc, q3T] at k3
    exact qaP k3 (qhC (by rw [List.length_map]; omega) (qa3 _))
theorem zyQ {l : List qbD} (hm : ∀ m ∈ l, zbI m) : sumA (l.map tmOf) ≤ 128 * l.length := by
  induction l with
  | nil => exact Nat.le_refl _
  | cons a l ih =>
    have h1 := ih fun m h => hm m (by simp [h])
    have h2 := (hm a (by simp)).1
    simp only [List.map_cons, sumA, List.length_cons]
    show a.Coef.natAbs + _ ≤ _
    omega
theorem zzK {l : List qbD} (hm : ∀ m ∈ l, zbI m) (hf : FewOk l 6 4) :
    ∃ r, P.C 4 r ∧ P.W 7 5 r ∧ Ev (fun K => qlR K l) r.enc ∧ ∀ ρ, r.ev ρ = sumT ρ (l.map tmOf) := by
  have hs := zyQ hm
  have hl := hf.1
  have hll : (l.map tmOf).length = l.length := List.length_map ..
  obtain ⟨r, k1, k2, k3, k4⟩ := znA (n := 1) (m := 5) (l := l.map tmOf) (by omega) (by omega) (by rw [Int.pow_succ, Int.pow_zero]; omega) (fun t ht => by
    obtain ⟨x, hx, rfl⟩ := List.mem_map.1 ht
    have := hf.2 x hx
    obtain ⟨_, m0, m1, m2, m3⟩ := hm x hx
    refine ⟨?_, ?_, ?_, ?_⟩
    · show x.Exp.e0.toNat < 5; omega
    · show x.Exp.e1.toNat < 5; omega
    · show x.Exp.e2.toNat < 5; omega
    · show x.Exp.e3.toNat < 5; omega)
  refine ⟨r, k1, zpS (by omega) k2, ?_, k4⟩
  refine qaT ?_
  simp only [qlR, qgS]
  exact qaP (zs3 hm (by omega)) (qaP k3 (qa3 _))
open Go.Proofs.Try (prog)
inductive qpJ where
 | c0 (p : qaI) (m : qa5)
 | c1 (p : qaI) (m : qa5) (t17 : (List (List T))) (t18 : Int) (t19 : Int)
 | c2 (p : qaI) (m : qa5) (r33 : (List qaH)) (t17 : (List (List T))) (t18 : Int) (t19 : Int)
def qa7 : Nat → qpJ → Option (List qaH)
 | 0, _ => none
 | K + 1, .c0 p m =>
  bif (decide (p.Level = (0 : Int))) then
   some ([(qaH.mk p.Const m)] : List qaH)
  else
   qa7 K (.c1 p m p.Coefs (p.Coefs.length : Int) (0 : Int))
 | K + 1, .c1 p m t17 t18 t19 =>
  bif (decide (t19 < t18)) then
   (gid qcA t17 t19).bind fun x2 =>
   bif (decide ((wI6 (p.Level - (1 : Int))) = 0)) then
    (qa7 K (.c0 x2 (qa5.mk t19 m.e1 m.e2 m.e3))).bind fun x5 =>
    bif (decide (0 < x5.length)) then
     gd (x5.length * 64 ≤ 140737488355328) <|
     qa7 K (.c2 p (qa5.mk t19 m.e1 m.e2 m.e3) x5 t17 t18 (wI6 (t19 + (1 : Int))))
    else
     qa7 K (.c1 p (qa5.mk t19 m.e1 m.e2 m.e3) t17 t18 (wI6 (t19 + (1 : Int))))
   else
    bif (decide ((wI6 (p.Level - (1 : Int))) = 1)) then
     (qa7 K (.c0 x2 (qa5.mk m.e0 t19 m.e2 m.e3))).bind fun x6 =>
     bif (decide (0 < x6.length)) then
      gd (x6.length * 64 ≤ 140737488355328) <|
      qa7 K (.c2 p (qa5.mk m.e0 t19 m.e2 m.e3) x6 t17 t18 (wI6 (t19 + (1 : Int))))
     else
      qa7 K (.c1 p (qa5.mk m.e0 t19 m.e2 m.e3) t17 t18 (wI6 (t19 + (1 : Int))))
    else
     bif (decide ((wI6 (p.Level - (1 : Int))) = 2)) then
      (qa7 K (.c0 x2 (qa5.mk m.e0 m.e1 t19 m.e3))).bind fun x7 =>
      bif (decide (0 < x7.length)) then
       gd (x7.length * 64 ≤ 140737488355328) <|
       qa7 K (.c2 p (qa5.mk m.e0 m.e1 t19 m.e3) x7 t17 t18 (wI6 (t19 + (1 : Int))))
      else
       qa7 K (.c1 p (qa5.mk m.e0 m.e1 t19 m.e3) t17 t18 (wI6 (t19 + (1 : Int))))
     else
      bif (decide ((wI6 (p.Level - (1 : Int))) = 3)) then
       (qa7 K (.c0 x2 (qa5.mk m.e0 m.e1 m.e2 t19))).bind fun x8 =>
       bif (decide (0 < x8.length)) then
        gd (x8.length * 64 ≤ 140737488355328) <|
        qa7 K (.c2 p (qa5.mk m.e0 m.e1 m.e2 t19) x8 t17 t18 (wI6 (t19 + (1 : Int))))
       else
        qa7 K (.c1 p (qa5.mk m.e0 m.e1 m.e2 t19) t17 t18 (wI6 (t19 + (1 : Int))))
      else
       none
  else
   some []
 | K + 1, .c2 p m r33 t17 t18 t19 =>
  bif (decide (t19 < t18)) then
   (gid qcA t17 t19).bind fun x2 =>
   bif (decide ((wI6 (p.Level - (1 : Int))) = 0)) then
    (qa7 K (.c0 x2 (qa5.mk t19 m.e1 m.e2 m.e3))).bind fun x5 =>
    gd ((r33 ++ x5).length * 64 ≤ 140737488355328) <|
    qa7 K (.c2 p (qa5.mk t19 m.e1 m.e2 m.e3) (r33 ++ x5) t17 t18 (wI6 (t19 + (1 : Int))))
   else
    bif (decide ((wI6 (p.Level - (1 : Int))) = 1)) then
     (qa7 K (.c0 x2 (qa5.mk m.e0 t19 m.e2 m.e3))).bind fun x6 =>
     gd ((r33 ++ x6).length * 64 ≤ 140737488355328) <|
     qa7 K (.c2 p (qa5.mk m.e0 t19 m.e2 m.e3) (r33 ++ x6) t17 t18 (wI6 (t19 + (1 : Int))))
    else
     bif (decide ((wI6 (p.Level - (1 : Int))) = 2)) then
      (qa7 K (.c0 x2 (qa5.mk m.e0 m.e1 t19 m.e3))).bind fun x7 =>
      gd ((r33 ++ x7).length * 64 ≤ 140737488355328) <|
      qa7 K (.c2 p (qa5.mk m.e0 m.e1 t19 m.e3) (r33 ++ x7) t17 t18 (wI6 (t19 + (1 : Int))))
     else
      bif (decide ((wI6 (p.Level - (1 : Int))) = 3)) then
       (qa7 K (.c0 x2 (qa5.mk m.e0 m.e1 m.e2 t19))).bind fun x8 =>
       gd ((r33 ++ x8).length * 64 ≤ 140737488355328) <|
       qa7 K (.c2 p (qa5.mk m.e0 m.e1 m.e2 t19) (r33 ++ x8) t17 t18 (wI6 (t19 + (1 : Int))))
      else
       none
  else
   some r33
def q84 (K : Nat) (p : qaI) (m : qa5) : Option (List qaH) := qa7 K (.c0 p m)
noncomputable def qlE : Code := qcK prog 140
noncomputable def zbY : qpJ → List Fr
 | .c0 .. => [.code qlE]
 | .c1 .. => [.code (.loop (atC qlE [1,1,1,0,1,0,0])), .blk 0, .code (atC qlE [1,1,1,1])]
 | .c2 .. => [.code (.loop (atC qlE [1,1,1,0,1,0,0])), .blk 0, .code (atC qlE [1,1,1,1])]
def zeX : qpJ → St
 | .c0 p m => St.init [(TV.agg (qaB p)), (TV.agg (qbB m))]
 | .c1 p m t17 t18 t19 => ⟨[(2, .c (C.ptr 2 0)), (3, .c (C.ptr 3 0)), (5, .c (C.nil)), (17, vl 4 t17 rid), (18, vi .i64 t18), (19, vi .i64 t19)], [(2, .var ((qaB p).map C.t)), (3, .var ((qbB m).map C.t))], []⟩
 | .c2 p m r33 t17 t18 t19 => ⟨[(2, .c (C.ptr 2 0)), (3, .c (C.ptr 3 0)), (5, .c (C.row 33 0 r33.length)), (17, vl 4 t17 rid), (18, vi .i64 t18), (19, vi .i64 t19)], [(2, .var ((qaB p).map C.t)), (3, .var ((qbB m).map C.t)), (33, .row 135 6 (r33.map qaA) 0)], []⟩
def qr2 (cx : Cx) (c : qpJ) (r : (List qaH)) : Prop := Wk prog cx (qd0 prog 140 [[6]] (tl 6 r qaA)) (zbY c) .normal (zeX c)
abbrev qoX (K : Nat) : Prop := ∀ c r, qa7 K c = some r → ∀ cx : Cx, cx.n = 36 → qr2 cx c r
theorem qeK (K : Nat) (ih : qoX K) {p : qaI} {m : qa5} {r : (List qaH)} (h : qa7 K (.c0 p m) = some r) : qc0 prog 140 [(TV.agg (qaB p)), (TV.agg (qbB m))] (tl 6 r qaA) :=
 qbG [[6]] (by kernel_rfl) (by simp) fun cx hn => ih (.c0 p m) r h cx hn
theorem ze0 {K} (ih : qoX K) {cx} (hn : cx.n = 36) {p m} {r} (h : qa7 (K + 1) (.c0 p m) = some r) : qr2 cx (.c0 p m) r := by
 rw [qa7] at h
 rcases qaY h with ⟨h1, h⟩ | ⟨h1, h⟩
 ·have h := oinj h; subst h
  exact wkR [rg3, rg3, bTr, rgG [oo, oo, oo, oo, opI (.lit (([(qaH.mk p.Const m)] : List qaH).map qaA)), oo, .snap 4 (max 0 (0 + 1)) (([(qaH.mk p.Const m)] : List qaH).map qaA)]] hn (aC h1 <| aC (by kernel_rfl : [(T.bool p.Const.Neg), (T.sl 1 (p.Const.Abs.map qaE)), (T.int .i64 m.e0), (T.int .i64 m.e1), (T.int .i64 m.e2), (T.int .i64 m.e3)] = (([(qaH.mk p.Const m)] : List qaH).map qaA).flatten) <| aC (qfA _ _ _ (by simp) : ((([(qaH.mk p.Const m)] : List qaH).map qaA).drop 0).take 1 = ([(qaH.mk p.Const m)] : List qaH).map qaA) <| aC (rfl : (max 0 (0 + 1)) = (max 0 (0 + 1))) <| aN)
 ·exact wkG [rg3, rg3, bFa, rg1, rgG [oo, oo, opI (.ln (p.Coefs.length : Int)), oo], .pre [.keep [2,3,5,17,18,19] [2,3]]] hn (aC h1 <| aC (qdF p.Coefs rid) <| aN) (ih _ _ h cx hn)
theorem zeZ {K} (ih : qoX K) {cx} (hn : cx.n = 36) {p m t17 t18 t19} {r} (h : qa7 (K + 1) (.c1 p m t17 t18 t19) = some r) : qr2 cx (.c1 p m t17 t18 t19) r := by
 rw [qa7] at h
 rcases qaY h with ⟨h1, h⟩ | ⟨h1, h⟩
 ·obtain ⟨x2, h3, h⟩ := qaV h
  rcases qaY h with ⟨h4, h⟩ | ⟨h4, h⟩
  ·obtain ⟨x5, h6, h⟩ := qaV h
   rcases qaY h with ⟨h8, h⟩ | ⟨h8, h⟩
   ·obtain ⟨h7, h⟩ := qb3 h
    exact wkG [.go, rg1, bTr, rgG [oo, opI (.ix (qaB x2)), oo, oo, oo, oo], rgG [oo, oo, oo, oo, opI (.ia 0), oo], rgG [oo, oo, oo, opI (.call [[0,0,1,4], [0,0,0,0]] [(TV.agg (qaB x2)), (TV.agg (qbB (qa5.mk t19 m.e1 m.e2 m.e3)))] (tl 6 x5 qaA)), opI (.appN (x5.map qaA)), oo], rg2, .pre [.rl 5 0 x5.length, .keep [2,3,5,17,18,19] [2,3,33]]] hn (aC h1 <| aC (qkO h3 : 0 ≤ t19) <| aC (qnR @qa9 h3 : (t17.map rid)[t19.toNat]? = some (qaB x2)) <| aC (of_decide_eq_true h4 : (wI6 (p.Level - (1 : Int))) = ((0 : Nat) : Int)) <| aC (qeK K ih h6 : qc0 prog 140 [(TV.agg (qaB x2)), (TV.agg (qbB (qa5.mk t19 m.e1 m.e2 m.e3)))] (tl 6 x5 qaA)) <| aC (rfl : x5.map qaA = x5.map qaA) <| aC ((qeG _ _).symm ▸ of_decide_eq_true h8 : 0 < (x5.map qaA).length) <| aC ((qeG _ _).symm ▸ h7 : (x5.map qaA).length * 64 ≤ 140737488355328) <| aC ((qeG _ _).symm ▸ room (by decide) h7 : (x5.map qaA).length ≤ maxLen) <| aC r0 <| aC (by simp : (x5.map qaA).length = x5.length) <| aN) (ih _ _ h cx hn)
   ·exact wkG [.go, rg1, bTr, rgG [oo, opI (.ix (qaB x2)), oo, oo, oo, oo], rgG [oo, oo, oo, oo, opI (.ia 0), oo], rgG [oo, oo, oo, opI (.call [[0,0,1,4], [0,0,0,0]] [(TV.agg (qaB x2)), (TV.agg (qbB (qa5.mk t19 m.e1 m.e2 m.e3)))] (tl 6 x5 qaA)), .op .app0, oo], rg2, .pre [.keep [2,3,5,17,18,19] [2,3]]] hn (aC h1 <| aC (qkO h3 : 0 ≤ t19) <| aC (qnR @qa9 h3 : (t17.map rid)[t19.toNat]? = some (qaB x2)) <| aC (of_decide_eq_true h4 : (wI6 (p.Level - (1 : Int))) = ((0 : Nat) : Int)) <| aC (qeK K ih h6 : qc0 prog 140 [(TV.agg (qaB x2)), (TV.agg (qbB (qa5.mk t19 m.e1 m.e2 m.e3)))] (tl 6 x5 qaA)) <| aC (by rw [show x5 = [] from List.eq_nil_of_length_eq_zero (by have := of_decide_eq_false h8; omega)]; simp : x5.map qaA = []) <| aN) (ih _ _ h cx hn)
  ·rcases qaY h with ⟨h5, h⟩ | ⟨h5, h⟩
   ·obtain ⟨x6, h7, h⟩ := qaV h
    rcases qaY h with ⟨h9, h⟩ | ⟨h9, h⟩
    ·obtain ⟨h8, h⟩ := qb3 h
     exact wkG [.go, rg1, bTr, rgG [oo, opI (.ix (qaB x2)), oo, oo, oo, oo], rgG [oo, oo, oo, oo, opI (.ia 1), oo], rgG [oo, oo, oo, opI (.call [[0,0,1,4], [0,0,0,0]] [(TV.agg (qaB x2)), (TV.agg (qbB (qa5.mk m.e0 t19 m.e2 m.e3)))] (tl 6 x6 qaA)), opI (.appN (x6.map qaA)), oo], rg2, .pre [.rl 5 0 x6.length, .keep [2,3,5,17,18,19] [2,3,33]]] hn (aC h1 <| aC (qkO h3 : 0 ≤ t19) <| aC (qnR @qa9 h3 : (t17.map rid)[t19.toNat]? = some (qaB x2)) <| aC (of_decide_eq_true h5 : (wI6 (p.Level - (1 : Int))) = ((1 : Nat) : Int)) <| aC (qeK K ih h7 : qc0 prog 140 [(TV.agg (qaB x2)), (TV.agg (qbB (qa5.mk m.e0 t19 m.e2 m.e3)))] (tl 6 x6 qaA)) <| aC (rfl : x6.map qaA = x6.map qaA) <| aC ((qeG _ _).symm ▸ of_decide_eq_true h9 : 0 < (x6.map qaA).length) <| aC ((qeG _ _).symm ▸ h8 : (x6.map qaA).length * 64 ≤ 140737488355328) <| aC ((qeG _ _).symm ▸ room (by decide) h8 : (x6.map qaA).length ≤ maxLen) <| aC r0 <| aC (by simp : (x6.map qaA).length = x6.length) <| aN) (ih _ _ h cx hn)
    ·exact wkG [.go, rg1, bTr, rgG [oo, opI (.ix (qaB x2)), oo, oo, oo, oo], rgG [oo, oo, oo, oo, opI (.ia 1), oo], rgG [oo, oo, oo, opI (.call [[0,0,1,4], [0,0,0,0]] [(TV.agg (qaB x2)), (TV.agg (qbB (qa5.mk m.e0 t19 m.e2 m.e3)))] (tl 6 x6 qaA)), .op .app0, oo], rg2, .pre [.keep [2,3,5,17,18,19] [2,3]]] hn (aC h1 <| aC (qkO h3 : 0 ≤ t19) <| aC (qnR @qa9 h3 : (t17.map rid)[t19.toNat]? = some (qaB x2)) <| aC (of_decide_eq_true h5 : (wI6 (p.Level - (1 : Int))) = ((1 : Nat) : Int)) <| aC (qeK K ih h7 : qc0 prog 140 [(TV.agg (qaB x2)), (TV.agg (qbB (qa5.mk m.e0 t19 m.e2 m.e3)))] (tl 6 x6 qaA)) <| aC (by rw [show x6 = [] from List.eq_nil_of_length_eq_zero (by have := of_decide_eq_false h9; omega)]; simp : x6.map qaA = []) <| aN) (ih _ _ h cx hn)
   ·rcases qaY h with ⟨h6, h⟩ | ⟨h6, h⟩
    ·obtain ⟨x7, h8, h⟩ := qaV h
     rcases qaY h with ⟨h10, h⟩ | ⟨h10, h⟩
     ·obtain ⟨h9, h⟩ := qb3 h
      exact wkG [.go, rg1, bTr, rgG [oo, opI (.ix (qaB x2)), oo, oo, oo, oo], rgG [oo, oo, oo, oo, opI (.ia 2), oo], rgG [oo, oo, oo, opI (.call [[0,0,1,4], [0,0,0,0]] [(TV.agg (qaB x2)), (TV.agg (qbB (qa5.mk m.e0 m.e1 t19 m.e3)))] (tl 6 x7 qaA)), opI (.appN (x7.map qaA)), oo], rg2, .pre [.rl 5 0 x7.length, .keep [2,3,5,17,18,19] [2,3,33]]] hn (aC h1 <| aC (qkO h3 : 0 ≤ t19) <| aC (qnR @qa9 h3 : (t17.map rid)[t19.toNat]? = some (qaB x2)) <| aC (of_decide_eq_true h6 : (wI6 (p.Level - (1 : Int))) = ((2 : Nat) : Int)) <| aC (qeK K ih h8 : qc0 prog 140 [(TV.agg (qaB x2)), (TV.agg (qbB (qa5.mk m.e0 m.e1 t19 m.e3)))] (tl 6 x7 qaA)) <| aC (rfl : x7.map qaA = x7.map qaA) <| aC ((qeG _ _).symm ▸ of_decide_eq_true h10 : 0 < (x7.map qaA).length) <| aC ((qeG _ _).symm ▸ h9 : (x7.map qaA).length * 64 ≤ 140737488355328) <| aC ((qeG _ _).symm ▸ room (by decide) h9 : (x7.map qaA).length ≤ maxLen) <| aC r0 <| aC (by simp : (x7.map qaA).length = x7.length) <| aN) (ih _ _ h cx hn)
     ·exact wkG [.go, rg1, bTr, rgG [oo, opI (.ix (qaB x2)), oo, oo, oo, oo], rgG [oo, oo, oo, oo, opI (.ia 2), oo], rgG [oo, oo, oo, opI (.call [[0,0,1,4], [0,0,0,0]] [(TV.agg (qaB x2)), (TV.agg (qbB (qa5.mk m.e0 m.e1 t19 m.e3)))] (tl 6 x7 qaA)), .op .app0, oo], rg2, .pre [.keep [2,3,5,17,18,19] [2,3]]] hn (aC h1 <| aC (qkO h3 : 0 ≤ t19) <| aC (qnR @qa9 h3 : (t17.map rid)[t19.toNat]? = some (qaB x2)) <| aC (of_decide_eq_true h6 : (wI6 (p.Level - (1 : Int))) = ((2 : Nat) : Int)) <| aC (qeK K ih h8 : qc0 prog 140 [(TV.agg (qaB x2)), (TV.agg (qbB (qa5.mk m.e0 m.e1 t19 m.e3)))] (tl 6 x7 qaA)) <| aC (by rw [show x7 = [] from List.eq_nil_of_length_eq_zero (by have := of_decide_eq_false h10; omega)]; simp : x7.map qaA = []) <| aN) (ih _ _ h cx hn)
    ·rcases qaY h with ⟨h7, h⟩ | ⟨h7, h⟩
     ·obtain ⟨x8, h9, h⟩ := qaV h
      rcases qaY h with ⟨h11, h⟩ | ⟨h11, h⟩
      ·obtain ⟨h10, h⟩ := qb3 h
       exact wkG [.go, rg1, bTr, rgG [oo, opI (.ix (qaB x2)), oo, oo, oo, oo], rgG [oo, oo, oo, oo, opI (.ia 3), oo], rgG [oo, oo, oo, opI (.call [[0,0,1,4], [0,0,0,0]] [(TV.agg (qaB x2)), (TV.agg (qbB (qa5.mk m.e0 m.e1 m.e2 t19)))] (tl 6 x8 qaA)), opI (.appN (x8.map qaA)), oo], rg2, .pre [.rl 5 0 x8.length, .keep [2,3,5,17,18,19] [2,3,33]]] hn (aC h1 <| aC (qkO h3 : 0 ≤ t19) <| aC (qnR @qa9 h3 : (t17.map rid)[t19.toNat]? = some (qaB x2)) <| aC (of_decide_eq_true h7 : (wI6 (p.Level - (1 : Int))) = ((3 : Nat) : Int)) <| aC (qeK K ih h9 : qc0 prog 140 [(TV.agg (qaB x2)), (TV.agg (qbB (qa5.mk m.e0 m.e1 m.e2 t19)))] (tl 6 x8 qaA)) <| aC (rfl : x8.map qaA = x8.map qaA) <| aC ((qeG _ _).symm ▸ of_decide_eq_true h11 : 0 < (x8.map qaA).length) <| aC ((qeG _ _).symm ▸ h10 : (x8.map qaA).length * 64 ≤ 140737488355328) <| aC ((qeG _ _).symm ▸ room (by decide) h10 : (x8.map qaA).length ≤ maxLen) <| aC r0 <| aC (by simp : (x8.map qaA).length = x8.length) <| aN) (ih _ _ h cx hn)
      ·exact wkG [.go, rg1, bTr, rgG [oo, opI (.ix (qaB x2)), oo, oo, oo, oo], rgG [oo, oo, oo, oo, opI (.ia 3), oo], rgG [oo, oo, oo, opI (.call [[0,0,1,4], [0,0,0,0]] [(TV.agg (qaB x2)), (TV.agg (qbB (qa5.mk m.e0 m.e1 m.e2 t19)))] (tl 6 x8 qaA)), .op .app0, oo], rg2, .pre [.keep [2,3,5,17,18,19] [2,3]]] hn (aC h1 <| aC (qkO h3 : 0 ≤ t19) <| aC (qnR @qa9 h3 : (t17.map rid)[t19.toNat]? = some (qaB x2)) <| aC (of_decide_eq_true h7 : (wI6 (p.Level - (1 : Int))) = ((3 : Nat) : Int)) <| aC (qeK K ih h9 : qc0 prog 140 [(TV.agg (qaB x2)), (TV.agg (qbB (qa5.mk m.e0 m.e1 m.e2 t19)))] (tl 6 x8 qaA)) <| aC (by rw [show x8 = [] from List.eq_nil_of_length_eq_zero (by have := of_decide_eq_false h11; omega)]; simp : x8.map qaA = []) <| aN) (ih _ _ h cx hn)
     ·cases h
 ·have h := oinj h; subst h
  exact wkR [.go, rg1, bFa, rg2] hn (aC h1 <| aN)
theorem zeY {K} (ih : qoX K) {cx} (hn : cx.n = 36) {p m r33 t17 t18 t19} {r} (h : qa7 (K + 1) (.c2 p m r33 t17 t18 t19) = some r) : qr2 cx (.c2 p m r33 t17 t18 t19) r := by
 rw [qa7] at h
 rcases qaY h with ⟨h1, h⟩ | ⟨h1, h⟩
 ·obtain ⟨x2, h3, h⟩ := qaV h
  rcases qaY h with ⟨h4, h⟩ | ⟨h4, h⟩
  ·obtain ⟨x5, h6, h⟩ := qaV h
   obtain ⟨h7, h⟩ := qb3 h
   exact wkG [.go, rg1, bTr, rgG [oo, opI (.ix (qaB x2)), oo, oo, oo, oo], rgG [oo, oo, oo, oo, opI (.ia 0), oo], .pre [.keep [2,3,5,7,17,18,19] [2,3,7,33]], rgG [oo, oo, oo, opI (.call [[0,0,1,4], [0,0,0,0]] [(TV.agg (qaB x2)), (TV.agg (qbB (qa5.mk t19 m.e1 m.e2 m.e3)))] (tl 6 x5 qaA)), .appR (x5.map qaA) ((r33 ++ x5).map qaA), oo], rg2, .pre [.rl 5 0 (r33 ++ x5).length, .keep [2,3,5,17,18,19] [2,3,33]]] hn (aC h1 <| aC (qkO h3 : 0 ≤ t19) <| aC (qnR @qa9 h3 : (t17.map rid)[t19.toNat]? = some (qaB x2)) <| aC (of_decide_eq_true h4 : (wI6 (p.Level - (1 : Int))) = ((0 : Nat) : Int)) <| aC (qeK K ih h6 : qc0 prog 140 [(TV.agg (qaB x2)), (TV.agg (qbB (qa5.mk t19 m.e1 m.e2 m.e3)))] (tl 6 x5 qaA)) <| aC (by simp : r33.length = (r33.map qaA).length) <| aC (rfl : x5.map qaA = x5.map qaA) <| aC (qxK _ _ _ : r33.map qaA ++ x5.map qaA = (r33 ++ x5).map qaA) <| aC ((qeG _ _).symm ▸ h7 : ((r33 ++ x5).map qaA).length * 64 ≤ 140737488355328) <| aC ((qeG _ _).symm ▸ room (by decide) h7 : ((r33 ++ x5).map qaA).length ≤ maxLen) <| aC r0 <| aC (by simp : ((r33 ++ x5).map qaA).length = (r33 ++ x5).length) <| aN) (ih _ _ h cx hn)
  ·rcases qaY h with ⟨h5, h⟩ | ⟨h5, h⟩
   ·obtain ⟨x6, h7, h⟩ := qaV h
    obtain ⟨h8, h⟩ := qb3 h
    exact wkG [.go, rg1, bTr, rgG [oo, opI (.ix (qaB x2)), oo, oo, oo, oo], rgG [oo, oo, oo, oo, opI (.ia 1), oo], .pre [.keep [2,3,5,7,17,18,19] [2,3,7,33]], rgG [oo, oo, oo, opI (.call [[0,0,1,4], [0,0,0,0]] [(TV.agg (qaB x2)), (TV.agg (qbB (qa5.mk m.e0 t19 m.e2 m.e3)))] (tl 6 x6 qaA)), .appR (x6.map qaA) ((r33 ++ x6).map qaA), oo], rg2, .pre [.rl 5 0 (r33 ++ x6).length, .keep [2,3,5,17,18,19] [2,3,33]]] hn (aC h1 <| aC (qkO h3 : 0 ≤ t19) <| aC (qnR @qa9 h3 : (t17.map rid)[t19.toNat]? = some (qaB x2)) <| aC (of_decide_eq_true h5 : (wI6 (p.Level - (1 : Int))) = ((1 : Nat) : Int)) <| aC (qeK K ih h7 : qc0 prog 140 [(TV.agg (qaB x2)), (TV.agg (qbB (qa5.mk m.e0 t19 m.e2 m.e3)))] (tl 6 x6 qaA)) <| aC (by simp : r33.length = (r33.map qaA).length) <| aC (rfl : x6.map qaA = x6.map qaA) <| aC (qxK _ _ _ : r33.map qaA ++ x6.map qaA = (r33 ++ x6).map qaA) <| aC ((qeG _ _).symm ▸ h8 : ((r33 ++ x6).map qaA).length * 64 ≤ 140737488355328) <| aC ((qeG _ _).symm ▸ room (by decide) h8 : ((r33 ++ x6).map qaA).length ≤ maxLen) <| aC r0 <| aC (by simp : ((r33 ++ x6).map qaA).length = (r33 ++ x6).length) <| aN) (ih _ _ h cx hn)
   ·rcases qaY h with ⟨h6, h⟩ | ⟨h6, h⟩
    ·obtain ⟨x7, h8, h⟩ := qaV h
     obtain ⟨h9, h⟩ := qb3 h
     exact wkG [.go, rg1, bTr, rgG [oo, opI (.ix (qaB x2)), oo, oo, oo, oo], rgG [oo, oo, oo, oo, opI (.ia 2), oo], .pre [.keep [2,3,5,7,17,18,19] [2,3,7,33]], rgG [oo, oo, oo, opI (.call [[0,0,1,4], [0,0,0,0]] [(TV.agg (qaB x2)), (TV.agg (qbB (qa5.mk m.e0 m.e1 t19 m.e3)))] (tl 6 x7 qaA)), .appR (x7.map qaA) ((r33 ++ x7).map qaA), oo], rg2, .pre [.rl 5 0 (r33 ++ x7).length, .keep [2,3,5,17,18,19] [2,3,33]]] hn (aC h1 <| aC (qkO h3 : 0 ≤ t19) <| aC (qnR @qa9 h3 : (t17.map rid)[t19.toNat]? = some (qaB x2)) <| aC (of_decide_eq_true h6 : (wI6 (p.Level - (1 : Int))) = ((2 : Nat) : Int)) <| aC (qeK K ih h8 : qc0 prog 140 [(TV.agg (qaB x2)), (TV.agg (qbB (qa5.mk m.e0 m.e1 t19 m.e3)))] (tl 6 x7 qaA)) <| aC (by simp : r33.length = (r33.map qaA).length) <| aC (rfl : x7.map qaA = x7.map qaA) <| aC (qxK _ _ _ : r33.map qaA ++ x7.map qaA = (r33 ++ x7).map qaA) <| aC ((qeG _ _).symm ▸ h9 : ((r33 ++ x7).map qaA).length * 64 ≤ 140737488355328) <| aC ((qeG _ _).symm ▸ room (by decide) h9 : ((r33 ++ x7).map qaA).length ≤ maxLen) <| aC r0 <| aC (by simp : ((r33 ++ x7).map qaA).length = (r33 ++ x7).length) <| aN) (ih _ _ h cx hn)
    ·rcases qaY h with ⟨h7, h⟩ | ⟨h7, h⟩
     ·obtain ⟨x8, h9, h⟩ := qaV h
      obtain ⟨h10, h⟩ := qb3 h
      exact wkG [.go, rg1, bTr, rgG [oo, opI (.ix (qaB x2)), oo, oo, oo, oo], rgG [oo, oo, oo, oo, opI (.ia 3), oo], .pre [.keep [2,3,5,7,17,18,19] [2,3,7,33]], rgG [oo, oo, oo, opI (.call [[0,0,1,4], [0,0,0,0]] [(TV.agg (qaB x2)), (TV.agg (qbB (qa5.mk m.e0 m.e1 m.e2 t19)))] (tl 6 x8 qaA)), .appR (x8.map qaA) ((r33 ++ x8).map qaA), oo], rg2, .pre [.rl 5 0 (r33 ++ x8).length, .keep [2,3,5,17,18,19] [2,3,33]]] hn (aC h1 <| aC (qkO h3 : 0 ≤ t19) <| aC (qnR @qa9 h3 : (t17.map rid)[t19.toNat]? = some (qaB x2)) <| aC (of_decide_eq_true h7 : (wI6 (p.Level - (1 : Int))) = ((3 : Nat) : Int)) <| aC (qeK K ih h9 : qc0 prog 140 [(TV.agg (qaB x2)), (TV.agg (qbB (qa5.mk m.e0 m.e1 m.e2 t19)))] (tl 6 x8 qaA)) <| aC (by simp : r33.length = (r33.map qaA).length) <| aC (rfl : x8.map qaA = x8.map qaA) <| aC (qxK _ _ _ : r33.map qaA ++ x8.map qaA = (r33 ++ x8).map qaA) <| aC ((qeG _ _).symm ▸ h10 : ((r33 ++ x8).map qaA).length * 64 ≤ 140737488355328) <| aC ((qeG _ _).symm ▸ room (by decide) h10 : ((r33 ++ x8).map qaA).length ≤ maxLen) <| aC r0 <| aC (by simp : ((r33 ++ x8).map qaA).length = (r33 ++ x8).length) <| aN) (ih _ _ h cx hn)
     ·cases h
 ·have h := oinj h; subst h
  exact wkR [.go, rg1, bFa, rgG [oo, oo, .snap 4 (max 0 (0 + r33.length)) (r33.map qaA)]] hn (aC h1 <| aC (qfA _ _ _ (by simp) : ((r33.map qaA).drop 0).take r33.length = r33.map qaA) <| aC (rfl : (max 0 (0 + r33.length)) = (max 0 (0 + r33.length))) <| aN)
theorem qpI : ∀ K : Nat, qoX K
 | 0, c, r, h => by rw [qa7] at h; cases h
 | K + 1, .c0 .., r, h => fun cx hn => ze0 (qpI K) hn h
 | K + 1, .c1 .., r, h => fun cx hn => zeZ (qpI K) hn h
 | K + 1, .c2 .., r, h => fun cx hn => zeY (qpI K) hn h
theorem q7J {K : Nat} {p : qaI} {m : qa5} {r : (List qaH)} (h : q84 K p m = some r) : qc0 prog 140 [(TV.agg (qaB p)), (TV.agg (qbB m))] (tl 6 r qaA) :=
 qbG [[6]] (by kernel_rfl) (by simp) fun cx hn => qpI K (.c0 p m) r h cx hn
open Go.Proofs.Try (prog)
inductive qt4 where
 | c0 (p : qaI)
def qpM : Nat → qt4 → Option (List qaH)
 | 0, _ => none
 | K + 1, .c0 p =>
  (qqG K p).bind fun x1 =>
  (q84 K x1 (qa5.mk (0 : Int) (0 : Int) (0 : Int) (0 : Int))).bind fun x3 =>
  (qpG K x3).bind fun x5 =>
  some x5
def q4T (K : Nat) (p : qaI) : Option (List qaH) := qpM K (.c0 p)
noncomputable def zhT : Code := qcK prog 94
noncomputable def zkR : qt4 → List Fr
 | .c0 .. => [.code zhT]
def zm6 : qt4 → St
 | .c0 p => St.init [(TV.agg (qaB p))]
def zd3 (cx : Cx) (c : qt4) (r : (List qaH)) : Prop := Wk prog cx (qd0 prog 94 [[6]] (tl 6 r qaA)) (zkR c) .normal (zm6 c)
abbrev zd4 (K : Nat) : Prop := ∀ c r, qpM K c = some r → ∀ cx : Cx, cx.n = 8 → zd3 cx c r
theorem zm8 {K} (_ : zd4 K) {cx} (hn : cx.n = 8) {p} {r} (h : qpM (K + 1) (.c0 p) = some r) : zd3 cx (.c0 p) r := by
 rw [qpM] at h
 obtain ⟨x1, h2, h⟩ := qaV h
 obtain ⟨x3, h4, h⟩ := qaV h
 obtain ⟨x5, h6, h⟩ := qaV h
 have h := oinj h; subst h
 exact wkR [rg2, rgG [oo, opI (.call [[0,0,1,4]] [(TV.agg (qaB p))] (TV.agg (qaB x1))), oo, opI (.call [[0,0,1,4], [0,0,0,0]] [(TV.agg (qaB x1)), (TV.agg (qbB (qa5.mk (0 : Int) (0 : Int) (0 : Int) (0 : Int))))] (tl 6 x3 qaA)), opI (.call [[6]] [(tl 6 x3 qaA)] (tl 6 x5 qaA)), oo]] hn (aC (qqB h2) <| aC (q7J h4) <| aC (qv5 h6) <| aN)
theorem q57 : ∀ K : Nat, zd4 K
 | 0, c, r, h => by rw [qpM] at h; cases h
 | K + 1, .c0 .., r, h => fun cx hn => zm8 (q57 K) hn h
theorem zfB {K : Nat} {p : qaI} {r : (List qaH)} (h : q4T K p = some r) : qc0 prog 94 [(TV.agg (qaB p))] (tl 6 r qaA) :=
 qbG [[6]] (by kernel_rfl) (by simp) fun cx hn => q57 K (.c0 p) r h cx hn
open Go.Proofs.Try (prog)
inductive qlD where
 | c0 (a : (List qaK)) (b4 : qaK) (out : qaK) (b14_0 : (List qaH)) (m : qa5) (c : qaG)
 | c1 (a : (List qaK)) (b4 : qaK) (out : qaK) (v : qaK) (b14_0 : (List qaH)) (t19 : qa5) (t20 : Int)
 | c2 (a : (List qaK)) (b4 : qaK) (out : qaK) (v : qaK) (b14_0 : (List qaH)) (t19 : qa5) (t20 : Int)
def qbE : Nat → qlD → Option qaK
 | 0, _ => none
 | K + 1, .c0 a b4 out b14_0 m c =>
  (qsI K c).bind fun x1 =>
  qbE K (.c1 a b4 out x1 b14_0 m (0 : Int))
 | K + 1, .c1 a b4 out v b14_0 t19 t20 =>
  bif (decide (t20 < (4 : Int))) then
   bif (decide (t20 = 0)) then
    bif (decide (t19.e0 = (0 : Int))) then
     qbE K (.c2 a b4 out v b14_0 t19 t20)
    else
     (qjI K (0 : Int)).bind fun x4 =>
     bif (decide (t20 < (a.length : Int))) then
      (gi a t20).bind fun x7 =>
      (qhM K x7 t19.e0).bind fun x9 =>
      (qeM K v x9).bind fun x11 =>
      qbE K (.c2 a b4 out x11 b14_0 t19 t20)
     else
      (qhM K x4 t19.e0).bind fun x7 =>
      (qeM K v x7).bind fun x9 =>
      qbE K (.c2 a b4 out x9 b14_0 t19 t20)
   else
    bif (decide (t20 = 1)) then
     bif (decide (t19.e1 = (0 : Int))) then
      qbE K (.c2 a b4 out v b14_0 t19 t20)
     else
      (qjI K (0 : Int)).bind fun x5 =>
      bif (decide (t20 < (a.length : Int))) then
       (gi a t20).bind fun x8 =>
       (qhM K x8 t19.e1).bind fun x10 =>
       (qeM K v x10).bind fun x12 =>
       qbE K (.c2 a b4 out x12 b14_0 t19 t20)
      else
       (qhM K x5 t19.e1).bind fun x8 =>
       (qeM K v x8).bind fun x10 =>
       qbE K (.c2 a b4 out x10 b14_0 t19 t20)
    else
     bif (decide (t20 = 2)) then
      bif (decide (t19.e2 = (0 : Int))) then
       qbE K (.c2 a b4 out v b14_0 t19 t20)
      else
       (qjI K (0 : Int)).bind fun x6 =>
       bif (decide (t20 < (a.length : Int))) then
        (gi a t20).bind fun x9 =>
        (qhM K x9 t19.e2).bind fun x11 =>
        (qeM K v x11).bind fun x13 =>
        qbE K (.c2 a b4 out x13 b14_0 t19 t20)
       else
        (qhM K x6 t19.e2).bind fun x9 =>
        (qeM K v x9).bind fun x11 =>
        qbE K (.c2 a b4 out x11 b14_0 t19 t20)
     else
      bif (decide (t20 = 3)) then
       bif (decide (t19.e3 = (0 : Int))) then
        qbE K (.c2 a b4 out v b14_0 t19 t20)
       else
        (qjI K (0 : Int)).bind fun x7 =>
        bif (decide (t20 < (a.length : Int))) then
         (gi a t20).bind fun x10 =>
         (qhM K x10 t19.e3).bind fun x12 =>
         (qeM K v x12).bind fun x14 =>
         qbE K (.c2 a b4 out x14 b14_0 t19 t20)
        else
         (qhM K x7 t19.e3).bind fun x10 =>
         (qeM K v x10).bind fun x12 =>
         qbE K (.c2 a b4 out x12 b14_0 t19 t20)
      else
       none
  else
   (qrT K out v).bind fun x2 =>
   some x2
 | K + 1, .c2 a b4 out v b14_0 t19 t20 =>
  qbE K (.c1 a b4 out v b14_0 t19 (wI6 (t20 + (1 : Int))))
def qqE (K : Nat) (a : (List qaK)) (b4 : qaK) (out : qaK) (b14_0 : (List qaH)) (m : qa5) (c : qaG) : Option qaK := qbE K (.c0 a b4 out b14_0 m c)
noncomputable def qfR : Code := qcK prog 93
noncomputable def q8Y : qlD → List Fr
 | .c0 .. => [.code (atC qfR [1,1,0,1,0,1])]
 | .c1 .. => [.code (.loop (atC qfR [1,1,0,1,0,1,0,1,0,1,0,0])), .blk 2, .code (atC qfR [1,1,0,1,0,1,0,1,1]), .blk 1]
 | .c2 .. => [.code (atC qfR [1,1,0,1,0,1,0,1,0,1,0,0,1,1,1]), .lp (atC qfR [1,1,0,1,0,1,0,1,0,1,0,0]), .blk 2, .code (atC qfR [1,1,0,1,0,1,0,1,1]), .blk 1]
def ql7 (l : Nat) (t5 t6 t7 : T) : List V := qjK 45 [(3, .c (C.ptr 3 0)), (4, .c (C.ptr 4 0)), (5, .c (C.ptr 5 0)), (14, .c (C.fn 126 [Cap.ptr 14 0]))] ++ itEx l t5 t6 t7
def q8Z : qlD → qaK → List (Nat × Blk)
 | .c0 a b4 _ b14_0 _ _, r_ => [(3, .var [C.t (T.sl 3 (a.map qaC))]), (4, .var ((qaC b4).map C.t)), (5, .var ((qaC r_).map C.t)), (14, .var [C.t (T.sl 6 (b14_0.map qaA))])]
 | .c1 a b4 _ _ b14_0 _ _, r_ => [(3, .var [C.t (T.sl 3 (a.map qaC))]), (4, .var ((qaC b4).map C.t)), (5, .var ((qaC r_).map C.t)), (14, .var [C.t (T.sl 6 (b14_0.map qaA))])]
 | .c2 a b4 _ _ b14_0 _ _, r_ => [(3, .var [C.t (T.sl 3 (a.map qaC))]), (4, .var ((qaC b4).map C.t)), (5, .var ((qaC r_).map C.t)), (14, .var [C.t (T.sl 6 (b14_0.map qaA))])]
def zbP (l : Nat) (t5 t6 t7 : T) : qlD → St
 | .c0 a b4 out b14_0 m c => ⟨[(3, .c (C.ptr 3 0)), (5, .c (C.ptr 5 0)), (6, .c (C.ptr 6 0)), (7, .c (C.ptr 7 0))], [(3, .var [C.t (T.sl 3 (a.map qaC))]), (4, .var ((qaC b4).map C.t)), (5, .var ((qaC out).map C.t)), (6, .var ((qbB m).map C.t)), (7, .var ((qaD c).map C.t)), (14, .var [C.t (T.sl 6 (b14_0.map qaA))])], ql7 l t5 t6 t7⟩
 | .c1 a b4 out v b14_0 t19 t20 => ⟨[(3, .c (C.ptr 3 0)), (5, .c (C.ptr 5 0)), (8, .c (C.ptr 8 0)), (19, .agg ((qbB t19).map C.t)), (20, vi .i64 t20)], [(3, .var [C.t (T.sl 3 (a.map qaC))]), (4, .var ((qaC b4).map C.t)), (5, .var ((qaC out).map C.t)), (8, .var ((qaC v).map C.t)), (14, .var [C.t (T.sl 6 (b14_0.map qaA))])], ql7 l t5 t6 t7⟩
 | .c2 a b4 out v b14_0 t19 t20 => ⟨[(3, .c (C.ptr 3 0)), (5, .c (C.ptr 5 0)), (8, .c (C.ptr 8 0)), (19, .agg ((qbB t19).map C.t)), (20, vi .i64 t20)], [(3, .var [C.t (T.sl 3 (a.map qaC))]), (4, .var ((qaC b4).map C.t)), (5, .var ((qaC out).map C.t)), (8, .var ((qaC v).map C.t)), (14, .var [C.t (T.sl 6 (b14_0.map qaA))])], ql7 l t5 t6 t7⟩
def qqS (cx : Cx) (l : Nat) (t5 t6 t7 : T) (c : qlD) (r : qaK) : Prop := Wk prog cx (zwR (q8Z c r) (ql7 l t5 t6 t7)) (q8Y c) .normal (zbP l t5 t6 t7 c)
abbrev qqT (K : Nat) : Prop := ∀ c r, qbE K c = some r → ∀ cx : Cx, cx.n = 45 → ∀ l t5 t6 t7, qqS cx l t5 t6 t7 c r
theorem zbS {K} (ih : qqT K) {cx} (hn : cx.n = 45) (l : Nat) (t5 t6 t7 : T) {a b4 out b14_0 m c} {r} (h : qbE (K + 1) (.c0 a b4 out b14_0 m c) = some r) : qqS cx l t5 t6 t7 (.c0 a b4 out b14_0 m c) r := by
 rw [qbE] at h
 obtain ⟨x1, h2, h⟩ := qaV h
 exact wkG [rgG [oo, opI (.call [[0,1]] [(TV.agg (qaD c))] (TV.agg (qaC x1))), oo, oo], rg2, .pre [.keep [3,5,8,19,20] [3,4,5,8,14]]] hn (aC (qwC h2) <| aN) (ih _ _ h cx hn l t5 t6 t7)
theorem zbR {K} (ih : qqT K) {cx} (hn : cx.n = 45) (l : Nat) (t5 t6 t7 : T) {a b4 out v b14_0 t19 t20} {r} (h : qbE (K + 1) (.c1 a b4 out v b14_0 t19 t20) = some r) : qqS cx l t5 t6 t7 (.c1 a b4 out v b14_0 t19 t20) r := by
 rw [qbE] at h
 rcases qaY h with ⟨h1, h⟩ | ⟨h1, h⟩
 ·rcases qaY h with ⟨h2, h⟩ | ⟨h2, h⟩
  ·rcases qaY h with ⟨h3, h⟩ | ⟨h3, h⟩
   ·exact wkG [.go, rg1, bTr, rgG [oo, opI (.iv 0), oo, oo], rg2, bTr, .pre [.keep [3,5,8,19,20] [3,4,5,8,14]]] hn (aC h1 <| aC (of_decide_eq_true h2 : t20 = ((0 : Nat) : Int)) <| aC h3 <| aN) (ih _ _ h cx hn l t5 t6 t7)
   ·obtain ⟨x4, h5, h⟩ := qaV h
    rcases qaY h with ⟨h6, h⟩ | ⟨h6, h⟩
    ·obtain ⟨x7, h8, h⟩ := qaV h
     obtain ⟨x9, h10, h⟩ := qaV h
     obtain ⟨x11, h12, h⟩ := qaV h
     exact wkG [.go, rg1, bTr, rgG [oo, opI (.iv 0), oo, oo], rg2, bFa, rgG [opI (.call [[0]] [(TV.c (T.int .i64 (0 : Int)))] (TV.agg (qaC x4))), oo, oo], rgG [oo, oo, opI (.ln (a.length : Int)), oo], bTr, rgG [oo, oo, opI (.ix (qaC x7)), oo, oo], .draw [.p, .p, .p, (.call [[0,1,1], [0]] [(TV.agg (qaC x7)), (ti .i64 t19.e0)] (TV.agg (qaC x9)))] [opI (.call [[0,1,1], [0,1,1]] [(TV.agg (qaC v)), (TV.agg (qaC x9))] (TV.agg (qaC x11))), .op .p], .pre [.keep [3,5,8,19,20] [3,4,5,8,14]]] hn (aC h1 <| aC (of_decide_eq_true h2 : t20 = ((0 : Nat) : Int)) <| aC h3 <| aC (qeS h5) <| aC (qdF a qaC) <| aC h6 <| aC (qb2 h8) <| aC (qfK qaC h8) <| aC (qf6 h10) <| aC (qdG h12) <| aN) (ih _ _ h cx hn l t5 t6 t7)
    ·obtain ⟨x7, h8, h⟩ := qaV h
     obtain ⟨x9, h10, h⟩ := qaV h
     exact wkG [.go, rg1, bTr, rgG [oo, opI (.iv 0), oo, oo], rg2, bFa, rgG [opI (.call [[0]] [(TV.c (T.int .i64 (0 : Int)))] (TV.agg (qaC x4))), oo, oo], rgG [oo, oo, opI (.ln (a.length : Int)), oo], bFa, .draw [.p, .p, .p, (.call [[0,1,1], [0]] [(TV.agg (qaC x4)), (ti .i64 t19.e0)] (TV.agg (qaC x7)))] [opI (.call [[0,1,1], [0,1,1]] [(TV.agg (qaC v)), (TV.agg (qaC x7))] (TV.agg (qaC x9))), .op .p], .pre [.keep [3,5,8,19,20] [3,4,5,8,14]]] hn (aC h1 <| aC (of_decide_eq_true h2 : t20 = ((0 : Nat) : Int)) <| aC h3 <| aC (qeS h5) <| aC (qdF a qaC) <| aC h6 <| aC (qf6 h8) <| aC (qdG h10) <| aN) (ih _ _ h cx hn l t5 t6 t7)
  ·rcases qaY h with ⟨h3, h⟩ | ⟨h3, h⟩
   ·rcases qaY h with ⟨h4, h⟩ | ⟨h4, h⟩
    ·exact wkG [.go, rg1, bTr, rgG [oo, opI (.iv 1), oo, oo], rg2, bTr, .pre [.keep [3,5,8,19,20] [3,4,5,8,14]]] hn (aC h1 <| aC (of_decide_eq_true h3 : t20 = ((1 : Nat) : Int)) <| aC h4 <| aN) (ih _ _ h cx hn l t5 t6 t7)
    ·obtain ⟨x5, h6, h⟩ := qaV h
     rcases qaY h with ⟨h7, h⟩ | ⟨h7, h⟩
     ·obtain ⟨x8, h9, h⟩ := qaV h
      obtain ⟨x10, h11, h⟩ := qaV h
      obtain ⟨x12, h13, h⟩ := qaV h
      exact wkG [.go, rg1, bTr, rgG [oo, opI (.iv 1), oo, oo], rg2, bFa, rgG [opI (.call [[0]] [(TV.c (T.int .i64 (0 : Int)))] (TV.agg (qaC x5))), oo, oo], rgG [oo, oo, opI (.ln (a.length : Int)), oo], bTr, rgG [oo, oo, opI (.ix (qaC x8)), oo, oo], .draw [.p, .p, .p, (.call [[0,1,1], [0]] [(TV.agg (qaC x8)), (ti .i64 t19.e1)] (TV.agg (qaC x10)))] [opI (.call [[0,1,1], [0,1,1]] [(TV.agg (qaC v)), (TV.agg (qaC x10))] (TV.agg (qaC x12))), .op .p], .pre [.keep [3,5,8,19,20] [3,4,5,8,14]]] hn (aC h1 <| aC (of_decide_eq_true h3 : t20 = ((1 : Nat) : Int)) <| aC h4 <| aC (qeS h6) <| aC (qdF a qaC) <| aC h7 <| aC (qb2 h9) <| aC (qfK qaC h9) <| aC (qf6 h11) <| aC (qdG h13) <| aN) (ih _ _ h cx hn l t5 t6 t7)
     ·obtain ⟨x8, h9, h⟩ := qaV h
      obtain ⟨x10, h11, h⟩ := qaV h
      exact wkG [.go, rg1, bTr, rgG [oo, opI (.iv 1), oo, oo], rg2, bFa, rgG [opI (.call [[0]] [(TV.c (T.int .i64 (0 : Int)))] (TV.agg (qaC x5))), oo, oo], rgG [oo, oo, opI (.ln (a.length : Int)), oo], bFa, .draw [.p, .p, .p, (.call [[0,1,1], [0]] [(TV.agg (qaC x5)), (ti .i64 t19.e1)] (TV.agg (qaC x8)))] [opI (.call [[0,1,1], [0,1,1]] [(TV.agg (qaC v)), (TV.agg (qaC x8))] (TV.agg (qaC x10))), .op .p], .pre [.keep [3,5,8,19,20] [3,4,5,8,14]]] hn (aC h1 <| aC (of_decide_eq_true h3 : t20 = ((1 : Nat) : Int)) <| aC h4 <| aC (qeS h6) <| aC (qdF a qaC) <| aC h7 <| aC (qf6 h9) <| aC (qdG h11) <| aN) (ih _ _ h cx hn l t5 t6 t7)
   ·rcases qaY h with ⟨h4, h⟩ | ⟨h4, h⟩
    ·rcases qaY h with ⟨h5, h⟩ | ⟨h5, h⟩
     ·exact wkG [.go, rg1, bTr, rgG [oo, opI (.iv 2), oo, oo], rg2, bTr, .pre [.keep [3,5,8,19,20] [3,4,5,8,14]]] hn (aC h1 <| aC (of_decide_eq_true h4 : t20 = ((2 : Nat) : Int)) <| aC h5 <| aN) (ih _ _ h cx hn l t5 t6 t7)
     ·obtain ⟨x6, h7, h⟩ := qaV h
      rcases qaY h with ⟨h8, h⟩ | ⟨h8, h⟩
      ·obtain ⟨x9, h10, h⟩ := qaV h
       obtain ⟨x11, h12, h⟩ := qaV h
       obtain ⟨x13, h14, h⟩ := qaV h
       exact wkG [.go, rg1, bTr, rgG [oo, opI (.iv 2), oo, oo], rg2, bFa, rgG [opI (.call [[0]] [(TV.c (T.int .i64 (0 : Int)))] (TV.agg (qaC x6))), oo, oo], rgG [oo, oo, opI (.ln (a.length : Int)), oo], bTr, rgG [oo, oo, opI (.ix (qaC x9)), oo, oo], .draw [.p, .p, .p, (.call [[0,1,1], [0]] [(TV.agg (qaC x9)), (ti .i64 t19.e2)] (TV.agg (qaC x11)))] [opI (.call [[0,1,1], [0,1,1]] [(TV.agg (qaC v)), (TV.agg (qaC x11))] (TV.agg (qaC x13))), .op .p], .pre [.keep [3,5,8,19,20] [3,4,5,8,14]]] hn (aC h1 <| aC (of_decide_eq_true h4 : t20 = ((2 : Nat) : Int)) <| aC h5 <| aC (qeS h7) <| aC (qdF a qaC) <| aC h8 <| aC (qb2 h10) <| aC (qfK qaC h10) <| aC (qf6 h12) <| aC (qdG h14) <| aN) (ih _ _ h cx hn l t5 t6 t7)
      ·obtain ⟨x9, h10, h⟩ := qaV h
       obtain ⟨x11, h12, h⟩ := qaV h
       exact wkG [.go, rg1, bTr, rgG [oo, opI (.iv 2), oo, oo], rg2, bFa, rgG [opI (.call [[0]] [(TV.c (T.int .i64 (0 : Int)))] (TV.agg (qaC x6))), oo, oo], rgG [oo, oo, opI (.ln (a.length : Int)), oo], bFa, .draw [.p, .p, .p, (.call [[0,1,1], [0]] [(TV.agg (qaC x6)), (ti .i64 t19.e2)] (TV.agg (qaC x9)))] [opI (.call [[0,1,1], [0,1,1]] [(TV.agg (qaC v)), (TV.agg (qaC x9))] (TV.agg (qaC x11))), .op .p], .pre [.keep [3,5,8,19,20] [3,4,5,8,14]]] hn (aC h1 <| aC (of_decide_eq_true h4 : t20 = ((2 : Nat) : Int)) <| aC h5 <| aC (qeS h7) <| aC (qdF a qaC) <| aC h8 <| aC (qf6 h10) <| aC (qdG h12) <| aN) (ih _ _ h cx hn l t5 t6 t7)
    ·rcases qaY h with ⟨h5, h⟩ | ⟨h5, h⟩
     ·rcases qaY h with ⟨h6, h⟩ | ⟨h6, h⟩
      ·exact wkG [.go, rg1, bTr, rgG [oo, opI (.iv 3), oo, oo], rg2, bTr, .pre [.keep [3,5,8,19,20] [3,4,5,8,14]]] hn (aC h1 <| aC (of_decide_eq_true h5 : t20 = ((3 : Nat) : Int)) <| aC h6 <| aN) (ih _ _ h cx hn l t5 t6 t7)
      ·obtain ⟨x7, h8, h⟩ := qaV h
       rcases qaY h with ⟨h9, h⟩ | ⟨h9, h⟩
       ·obtain ⟨x10, h11, h⟩ := qaV h
        obtain ⟨x12, h13, h⟩ := qaV h
        obtain ⟨x14, h15, h⟩ := qaV h
        exact wkG [.go, rg1, bTr, rgG [oo, opI (.iv 3), oo, oo], rg2, bFa, rgG [opI (.call [[0]] [(TV.c (T.int .i64 (0 : Int)))] (TV.agg (qaC x7))), oo, oo], rgG [oo, oo, opI (.ln (a.length : Int)), oo], bTr, rgG [oo, oo, opI (.ix (qaC x10)), oo, oo], .draw [.p, .p, .p, (.call [[0,1,1], [0]] [(TV.agg (qaC x10)), (ti .i64 t19.e3)] (TV.agg (qaC x12)))] [opI (.call [[0,1,1], [0,1,1]] [(TV.agg (qaC v)), (TV.agg (qaC x12))] (TV.agg (qaC x14))), .op .p], .pre [.keep [3,5,8,19,20] [3,4,5,8,14]]] hn (aC h1 <| aC (of_decide_eq_true h5 : t20 = ((3 : Nat) : Int)) <| aC h6 <| aC (qeS h8) <| aC (qdF a qaC) <| aC h9 <| aC (qb2 h11) <| aC (qfK qaC h11) <| aC (qf6 h13) <| aC (qdG h15) <| aN) (ih _ _ h cx hn l t5 t6 t7)
       ·obtain ⟨x10, h11, h⟩ := qaV h
        obtain ⟨x12, h13, h⟩ := qaV h
        exact wkG [.go, rg1, bTr, rgG [oo, opI (.iv 3), oo, oo], rg2, bFa, rgG [opI (.call [[0]] [(TV.c (T.int .i64 (0 : Int)))] (TV.agg (qaC x7))), oo, oo], rgG [oo, oo, opI (.ln (a.length : Int)), oo], bFa, .draw [.p, .p, .p, (.call [[0,1,1], [0]] [(TV.agg (qaC x7)), (ti .i64 t19.e3)] (TV.agg (qaC x10)))] [opI (.call [[0,1,1], [0,1,1]] [(TV.agg (qaC v)), (TV.agg (qaC x10))] (TV.agg (qaC x12))), .op .p], .pre [.keep [3,5,8,19,20] [3,4,5,8,14]]] hn (aC h1 <| aC (of_decide_eq_true h5 : t20 = ((3 : Nat) : Int)) <| aC h6 <| aC (qeS h8) <| aC (qdF a qaC) <| aC h9 <| aC (qf6 h11) <| aC (qdG h13) <| aN) (ih _ _ h cx hn l t5 t6 t7)
     ·cases h
 ·obtain ⟨x2, h3, h⟩ := qaV h
  have h := oinj h; subst h
  exact wk_rd (fuel := 76) [3,4,5,14] [.go, rg1, bFa, rgG [oo, oo, opI (.call [[0,1,1], [0,1,1]] [(TV.agg (qaC out)), (TV.agg (qaC v))] (TV.agg (qaC x2))), oo]] _ hn (by kernel_rfl) (aC h1 <| aC (qsJ h3) <| aN)
theorem zbQ {K} (ih : qqT K) {cx} (hn : cx.n = 45) (l : Nat) (t5 t6 t7 : T) {a b4 out v b14_0 t19 t20} {r} (h : qbE (K + 1) (.c2 a b4 out v b14_0 t19 t20) = some r) : qqS cx l t5 t6 t7 (.c2 a b4 out v b14_0 t19 t20) r := by
 rw [qbE] at h
 exact q2Q (fuel := 44) [rg2, .pre [.keep [3,5,8,19,20] [3,4,5,8,14]]] _ hn (by kernel_rfl) aN (ih _ _ h cx hn l t5 t6 t7)
theorem qn8 : ∀ K : Nat, qqT K
 | 0, c, r, h => by rw [qbE] at h; cases h
 | K + 1, .c0 .., r, h => fun cx hn l t5 t6 t7 => zbS (qn8 K) hn l t5 t6 t7 h
 | K + 1, .c1 .., r, h => fun cx hn l t5 t6 t7 => zbR (qn8 K) hn l t5 t6 t7 h
 | K + 1, .c2 .., r, h => fun cx hn l t5 t6 t7 => zbQ (qn8 K) hn l t5 t6 t7 h
theorem q2U {K : Nat} {a : (List qaK)} {b4 : qaK} {out : qaK} {b14_0 : (List qaH)} {m : qa5} {c : qaG} {r : qaK} (h : qqE K a b4 out b14_0 m c = some r) {l : Nat} {t5 t6 t7 : T} : zeH prog 45 (atC qfR [1,1,0,1,0,0]) (atC qfR [1,1,0,1,0,1]) (q6I [15,16] [.agg ((qbB m).map C.t), .agg ((qaD c).map C.t)] [(3, .c (C.ptr 3 0)), (4, .c (C.ptr 4 0)), (5, .c (C.ptr 5 0)), (14, .c (C.fn 126 [Cap.ptr 14 0]))]) (ql7 l t5 t6 t7) [(3, .var [C.t (T.sl 3 (a.map qaC))]), (4, .var ((qaC b4).map C.t)), (5, .var ((qaC out).map C.t)), (14, .var [C.t (T.sl 6 (b14_0.map qaA))])] [(3, .var [C.t (T.sl 3 (a.map qaC))]), (4, .var ((qaC b4).map C.t)), (5, .var ((qaC r).map C.t)), (14, .var [C.t (T.sl 6 (b14_0.map qaA))])] :=
 zoU fun cx hn => wk_as (fuel := 50) [3,5,6,7] [3,4,5,6,7,14] [rg2, rg2] _ hn (by kernel_rfl) aN fun cx hn => qn8 K (.c0 a b4 out b14_0 m c) r h cx hn l t5 t6 t7
open Go.Proofs.Try (prog)
inductive qr0 where
 | c0 (p : (List qaH)) (a : (List qaK))
 | c1 (a : (List qaK)) (b4 : qaK) (out : qaK) (b14_0 : (List qaH))
def qg3 : Nat → qr0 → Option qaK
 | 0, _ => none
 | K + 1, .c0 p a =>
  (qjI K (0 : Int)).bind fun x1 =>
  (qoU K p).bind fun x3 =>
  qg3 K (.c1 a (qaK.mk (qaG.mk false []) []) x1 x3)
 | K + 1, .c1 a b4 out b14_0 =>
  (itT K (fun z m c => qqE K a b4 z b14_0 m c) out b14_0).bind fun x1 =>
  gd (b14_0.length ≤ 4611686018427387904) <|
  some x1
def q7G (K : Nat) (p : (List qaH)) (a : (List qaK)) : Option qaK := qg3 K (.c0 p a)
noncomputable def qkZ : Code := qcK prog 93
noncomputable def zhG : qr0 → List Fr
 | .c0 .. => [.code qkZ]
 | .c1 .. => [.code (atC qkZ [1,1,0,1,0]), .blk 0, .code (atC qkZ [1,1,1])]
def zkA : qr0 → St
 | .c0 p a => St.init [(tl 6 p qaA), (tl 3 a qaC)]
 | .c1 a b4 out b14_0 => ⟨[(3, .c (C.ptr 3 0)), (4, .c (C.ptr 4 0)), (5, .c (C.ptr 5 0)), (14, .c (C.fn 126 [Cap.ptr 14 0]))], [(3, .var [C.t (T.sl 3 (a.map qaC))]), (4, .var ((qaC b4).map C.t)), (5, .var ((qaC out).map C.t)), (14, .var [C.t (T.sl 6 (b14_0.map qaA))])], []⟩
def qz3 (cx : Cx) (c : qr0) (r : qaK) : Prop := Wk prog cx (qd0 prog 93 [[0,1,1]] (TV.agg (qaC r))) (zhG c) .normal (zkA c)
abbrev qz4 (K : Nat) : Prop := ∀ c r, qg3 K c = some r → ∀ cx : Cx, cx.n = 45 → cx.rd = none → qz3 cx c r
theorem zkC {K} (ih : qz4 K) {cx} (hn : cx.n = 45) (hrd : cx.rd = none) {p a} {r} (h : qg3 (K + 1) (.c0 p a) = some r) : qz3 cx (.c0 p a) r := by
 rw [qg3] at h
 obtain ⟨x1, h2, h⟩ := qaV h
 obtain ⟨x3, h4, h⟩ := qaV h
 exact wkG [rg2, rgG [opI (.call [[0]] [(TV.c (T.int .i64 (0 : Int)))] (TV.agg (qaC x1))), oo, oo], rgG [oo, .callC [[6]] 126 [(T.sl 6 (x3.map qaA))]], .pre [.tellB 4 [0,1,1], .keep [3,4,5,14] [3,4,5,14]]] hn (aC (qeS h2) <| aC (qtI h4) <| aN) (ih _ _ h cx hn hrd)
theorem zkB {K} (_ : qz4 K) {cx} (hn : cx.n = 45) (hrd : cx.rd = none) {a b4 out b14_0} {r} (h : qg3 (K + 1) (.c1 a b4 out b14_0) = some r) : qz3 cx (.c1 a b4 out b14_0) r := by
 rw [qg3] at h
 obtain ⟨x1, h2, h⟩ := qaV h
 obtain ⟨h3, h⟩ := qb3 h
 refine zoB (tm := [(3, .c (C.ptr 3 0)), (4, .c (C.ptr 4 0)), (5, .c (C.ptr 5 0)), (14, .c (C.fn 126 [Cap.ptr 14 0]))]) (hp := (fun z : qaK => ([(3, .var [C.t (T.sl 3 (a.map qaC))]), (4, .var ((qaC b4).map C.t)), (5, .var ((qaC z).map C.t)), (14, .var [C.t (T.sl 6 (b14_0.map qaA))])] : List (Nat × Blk))) out) (hp' := (fun z : qaK => ([(3, .var [C.t (T.sl 3 (a.map qaC))]), (4, .var ((qaC b4).map C.t)), (5, .var ((qaC z).map C.t)), (14, .var [C.t (T.sl 6 (b14_0.map qaA))])] : List (Nat × Blk))) x1) (f := 126) (caps := [.ptr 14 0])
  (show (atC qkZ [1,1,0,1,0]) = .rangeFunc (.tmp 14) #[15,16] (atC qkZ [1,1,0,1,0,0]) (atC qkZ [1,1,0,1,0,1]) by kernel_rfl) rfl hn hrd (by kernel_rfl) (by kernel_rfl)
  (ztR (j := 14) (HP := fun z : qaK => ([(3, .var [C.t (T.sl 3 (a.map qaC))]), (4, .var ((qaC b4).map C.t)), (5, .var ((qaC z).map C.t)), (14, .var [C.t (T.sl 6 (b14_0.map qaA))])] : List (Nat × Blk))) rfl (by simp) (fun _ => rfl) (fun _ => by kernel_rfl) (fun _ => rfl) (fun _ _ _ _ _ _ _ _ h => q2U h) h3 h2) ?_
 have h := oinj h; subst h
 exact zl9 (fuel := 56) [rg2] _ hn (by kernel_rfl) aN
theorem qv7 : ∀ K : Nat, qz4 K
 | 0, c, r, h => by rw [qg3] at h; cases h
 | K + 1, .c0 .., r, h => fun cx hn hrd => zkC (qv7 K) hn hrd h
 | K + 1, .c1 .., r, h => fun cx hn hrd => zkB (qv7 K) hn hrd h
theorem zbT {K : Nat} {p : (List qaH)} {a : (List qaK)} {r : qaK} (h : q7G K p a = some r) : qc0 prog 93 [(tl 6 p qaA), (tl 3 a qaC)] (TV.agg (qaC r)) :=
 zpD [[0,1,1]] (by kernel_rfl) (by simp) fun cx hn hrd => qv7 K (.c0 p a) r h cx hn hrd
open Go.Proofs.Try (prog)
inductive qqX where
 | c0 (p : qaI) (a : (List qaK))
def qmD : Nat → qqX → Option qaK
 | 0, _ => none
 | K + 1, .c0 p a =>
  (q4T K p).bind fun x1 =>
  (q7G K x1 a).bind fun x3 =>
  some x3
def qxT (K : Nat) (p : qaI) (a : (List qaK)) : Option qaK := qmD K (.c0 p a)
noncomputable def zcB : Code := qcK prog 42
noncomputable def zfH : qqX → List Fr
 | .c0 .. => [.code zcB]
def zhU : qqX → St
 | .c0 p a => St.init [(TV.agg (qaB p)), (tl 3 a qaC)]
def q58 (cx : Cx) (c : qqX) (r : qaK) : Prop := Wk prog cx (qd0 prog 42 [[0,1,1]] (TV.agg (qaC r))) (zfH c) .normal (zhU c)
abbrev q59 (K : Nat) : Prop := ∀ c r, qmD K c = some r → ∀ cx : Cx, cx.n = 9 → q58 cx c r
theorem zhW {K} (_ : q59 K) {cx} (hn : cx.n = 9) {p a} {r} (h : qmD (K + 1) (.c0 p a) = some r) : q58 cx (.c0 p a) r := by
 rw [qmD] at h
 obtain ⟨x1, h2, h⟩ := qaV h
 obtain ⟨x3, h4, h⟩ := qaV h
 have h := oinj h; subst h
 exact wkR [rg2, rgG [oo, opI (.call [[0,0,1,4]] [(TV.agg (qaB p))] (tl 6 x1 qaA)), oo, opI (.call [[6], [3]] [(tl 6 x1 qaA), (tl 3 a qaC)] (TV.agg (qaC x3))), oo]] hn (aC (zfB h2) <| aC (zbT h4) <| aN)
theorem q07 : ∀ K : Nat, q59 K
 | 0, c, r, h => by rw [qmD] at h; cases h
 | K + 1, .c0 .., r, h => fun cx hn => zhW (q07 K) hn h
theorem qsF {K : Nat} {p : qaI} {a : (List qaK)} {r : qaK} (h : qxT K p a = some r) : qc0 prog 42 [(TV.agg (qaB p)), (tl 3 a qaC)] (TV.agg (qaC r)) :=
 qbG [[0,1,1]] (by kernel_rfl) (by simp) fun cx hn => q07 K (.c0 p a) r h cx hn
def setE (m : Mn) (lv i : Nat) : Mn := match lv with
  | 1 => ⟨i, m.e1, m.e2, m.e3⟩
  | 2 => ⟨m.e0, i, m.e2, m.e3⟩
  | 3 => ⟨m.e0, m.e1, i, m.e3⟩
  | _ => ⟨m.e0, m.e1, m.e2, i⟩
def LowZ (m : Mn) (L : Nat) : Prop := (1 ≤ L → m.e0 = 0) ∧ (2 ≤ L → m.e1 = 0) ∧ (3 ≤ L → m.e2 = 0) ∧ (4 ≤ L → m.e3 = 0)
mutual
def qlC (m : Mn) : P → List Tm
  | .k c => [⟨c, m⟩]
  | .p lv cs => qn2 lv m 0 cs
def qn2 (lv : Nat) (m : Mn) (i : Nat) : List P → List Tm
  | [] => []
  | c :: cs => qlC (setE m lv i) c ++ qn2 lv m (i + 1) cs
end
theorem zq8 {lv : Nat} (h1 : 1 ≤ lv) (h4 : lv ≤ 4) (m : Mn) (i j : Nat) : setE (setE m lv i) lv j = setE m lv j := by
  rcases (by omega : lv = 1 ∨ lv = 2 ∨ lv = 3 ∨ lv = 4) with rfl | rfl | rfl | rfl <;> rfl
theorem zvF {lv : Nat} (h1 : 1 ≤ lv) (h4 : lv ≤ 4) {m : Mn} (h : LowZ m lv) (i : Nat) : LowZ (setE m lv i) (lv - 1) := by
  obtain ⟨a, b, c, d⟩ := h
  rcases (by omega : lv = 1 ∨ lv = 2 ∨ lv = 3 ∨ lv = 4) with rfl | rfl | rfl | rfl <;> (unfold setE LowZ; simp only; refine ⟨?_, ?_, ?_, ?_⟩ <;> (intro h; first | omega | exact a (by omega) | exact b (by omega) | exact c (by omega) | exact d (by omega)))
theorem zvR {m : Mn} {L L' : Nat} (h : L' ≤ L) (hz : LowZ m L) : LowZ m L' := ⟨fun k => hz.1 (by omega), fun k => hz.2.1 (by omega), fun k => hz.2.2.1 (by omega), fun k => hz.2.2.2 (by omega)⟩
theorem zyT (ρ : Nat → Rat) {lv : Nat} (h1 : 1 ≤ lv) (h4 : lv ≤ 4) {m : Mn} (h : LowZ m lv) (i : Nat) : (setE m lv i).ev ρ = m.ev ρ * ρ lv ^ i := by
  obtain ⟨a, b, c, d⟩ := h
  unfold Mn.ev
  rcases (by omega : lv = 1 ∨ lv = 2 ∨ lv = 3 ∨ lv = 4) with rfl | rfl | rfl | rfl
  · rw [a (by omega)]; simp only [setE]; grind
  · rw [b (by omega)]; simp only [setE]; grind
  · rw [c (by omega)]; simp only [setE]; grind
  · rw [d (by omega)]; simp only [setE]; grind
mutual
theorem zoG (ρ : Nat → Rat) : ∀ (L : Nat) (p : P) (m : Mn), P.C L p → L ≤ 4 → LowZ m p.lev → sumT ρ (qlC m p) = m.ev ρ * p.ev ρ
  | L, .k c, m, hC, hL, hz => by
    rw [qlC, sumT, sumT, Tm.ev, P.ev]; grind
  | L, .p lv cs, m, hC, hL, hz => by
    rw [P.C] at hC
    rw [qlC, P.ev, zmF ρ lv cs m 0 hC.2.2.2.1 hC.1 (by omega) hz]
    grind
theorem zmF (ρ : Nat → Rat) : ∀ (lv : Nat) (cs : List P) (m : Mn) (i : Nat), P.Cs (lv - 1) cs → 1 ≤ lv → lv ≤ 4 → LowZ m lv → sumT ρ (qn2 lv m i cs) = m.ev ρ * ρ lv ^ i * P.evs ρ (ρ lv) cs
  | lv, [], m, i, hC, h1, h4, hz => by rw [qn2, sumT, P.evs]; grind
  | lv, c :: cs, m, i, hC, h1, h4, hz => by
    rw [P.Cs] at hC
    have hl := zuU hC.1
    rw [qn2, zhA, zoG ρ (lv - 1) c (setE m lv i) hC.1 (by omega) (zvR hl (zvF h1 h4 hz i)), zmF ρ lv cs m (i + 1) hC.2 h1 h4 hz, zyT ρ h1 h4 hz, P.evs, Rat.pow_succ]
    grind
end
mutual
theorem zbL (n w : Nat) : ∀ (L : Nat) (p : P) (m : Mn), P.C L p → P.W n w p → 1 ≤ w → (qlC m p).length ≤ w ^ L
  | L, .k c, m, hC, hW, h1 => by rw [qlC]; exact Nat.pow_pos (by omega)
  | L, .p lv cs, m, hC, hW, h1 => by
    rw [P.C] at hC
    rw [P.W] at hW
    rw [qlC]
    have := zg9 n w lv cs m 0 hC.2.2.2.1 hW.2 h1
    have e : w ^ L = w ^ (L - lv) * (w * w ^ (lv - 1)) := by
      rw [← Nat.pow_succ', ← Nat.pow_add]; congr 1; omega
    have h2 : cs.length * w ^ (lv - 1) ≤ w * w ^ (lv - 1) := Nat.mul_le_mul_right _ hW.1
    have h3 : w * w ^ (lv - 1) ≤ w ^ (L - lv) * (w * w ^ (lv - 1)) := Nat.le_mul_of_pos_left _ (Nat.pow_pos (by omega))
    omega
theorem zg9 (n w : Nat) : ∀ (lv : Nat) (cs : List P) (m : Mn) (i : Nat), P.Cs (lv - 1) cs → P.Ws n w cs → 1 ≤ w → (qn2 lv m i cs).length ≤ cs.length * w ^ (lv - 1)
  | lv, [], m, i, hC, hW, h1 => by rw [qn2]; simp
  | lv, c :: cs, m, i, hC, hW, h1 => by
    rw [P.Cs] at hC
    rw [P.Ws] at hW
    have k1 := zbL n w (lv - 1) c (setE m lv i) hC.1 hW.1 h1
    have k2 := zg9 n w lv cs m (i + 1) hC.2 hW.2 h1
    rw [qn2, List.length_append, List.length_cons, Nat.succ_mul]
    omega
end
mutual
theorem zmG (n w : Nat) : ∀ (L : Nat) (p : P) (m : Mn), P.C L p → P.W n w p → L ≤ 4 → (∀ c, zbJ w ⟨c, m⟩) → ∀ t ∈ qlC m p, (t.c.natAbs : Int) < 4294967296 ^ n ∧ zbJ w t
  | L, .k c, m, hC, hW, hL, hm, t, ht => by
    rw [qlC] at ht
    rw [P.W] at hW
    rw [List.mem_singleton.1 ht]
    exact ⟨hW, hm c⟩
  | L, .p lv cs, m, hC, hW, hL, hm, t, ht => by
    rw [P.C] at hC
    rw [P.W] at hW
    rw [qlC] at ht
    exact zg8 n w lv cs m 0 hC.2.2.2.1 hW.2 hC.1 (by omega) (by omega) hm t ht
theorem zg8 (n w : Nat) : ∀ (lv : Nat) (cs : List P) (m : Mn) (i : Nat), P.Cs (lv - 1) cs → P.Ws n w cs → 1 ≤ lv → lv ≤ 4 → i + cs.length ≤ w → (∀ c, zbJ w ⟨c, m⟩) → ∀ t ∈ qn2 lv m i cs, (t.c.natAbs : Int) < 4294967296 ^ n ∧ zbJ w t
  | lv, [], m, i, hC, hW, h1, h4, hi, hm, t, ht => by rw [qn2] at ht; cases ht
  | lv, c :: cs, m, i, hC, hW, h1, h4, hi, hm, t, ht => by
    rw [P.Cs] at hC
    rw [P.Ws] at hW
    simp only [List.length_cons] at hi
    rw [qn2] at ht
    rcases List.mem_append.1 ht with ht | ht
    · refine zmG n w (lv - 1) c (setE m lv i) hC.1 hW.1 (by omega) (fun c => ?_) t ht
      obtain ⟨a0, a1, a2, a3⟩ := hm c
      rcases (by omega : lv = 1 ∨ lv = 2 ∨ lv = 3 ∨ lv = 4) with rfl | rfl | rfl | rfl <;> exact ⟨by first | assumption | (show i < w; omega), by first | assumption | (show i < w; omega), by first | assumption | (show i < w; omega), by first | assumption | (show i < w; omega)⟩
    · exact zg8 n w lv cs m (i + 1) hC.2 hW.2 h1 h4 (by omega) hm t ht
end
theorem zp2 {B : Nat} : ∀ {l : List Tm}, (∀ t ∈ l, t.c.natAbs ≤ B) → sumA l ≤ l.length * B
  | [], _ => Nat.zero_le _
  | t :: l, h => by
    have h1 := h t (by simp)
    have h2 := zp2 (l := l) fun t ht => h t (by simp [ht])
    rw [sumA, List.length_cons, Nat.succ_mul]; omega
theorem zoF : ∀ (L : Nat) (p : P) (m : Mn), P.C L p → 0 < (qlC m p).length
  | L, .k c, m, _ => by rw [qlC]; simp
  | L, .p lv [], m, hC => by rw [P.C] at hC; simp at hC
  | L, .p lv (c :: cs), m, hC => by
    rw [P.C, P.Cs] at hC
    have := zoF (lv - 1) c (setE m lv 0) hC.2.2.2.1.1
    rw [qlC, qn2, List.length_append]
    omega
theorem zq1 {pp : qaI} {lv : Nat} (hlv : pp.Level = (lv : Int)) (h1 : 1 ≤ lv) (h4 : lv ≤ 4) {cs : List P} (hl : cs.length ≤ 1000000) {m0 : Mn}
    (hs : ∀ (i : Nat) x, cs[i]? = some x → Ev (fun K => qa7 K (.c0 x.enc (setE m0 lv i).enc)) ((qlC (setE m0 lv i) x).map Tm.enc)) :
    ∀ (rest : List P) (i : Nat) (m : Mn) (acc : List Tm), (∀ j, setE m lv j = setE m0 lv j) → cs.drop i = rest → (acc ++ qn2 lv m0 i rest).length ≤ 1000000000 →
      Ev (fun K => qa7 K (.c2 pp m.enc (acc.map Tm.enc) (P.raws cs) (cs.length : Int) (i : Int))) ((acc ++ qn2 lv m0 i rest).map Tm.enc)
  | [], i, m, acc, hm, hd, hlen => by
    have : cs.length ≤ i := by
      have := congrArg List.length hd
      rw [List.length_drop, List.length_nil] at this
      omega
    refine qaT ?_
    simp only [qa7]
    rw [qn2, List.append_nil]
    exact ev_f (by simp; omega) (qa3 _)
  | c :: rest, i, m, acc, hm, hd, hlen => by
    have hlt : i < cs.length := by
      have := congrArg List.length hd
      rw [List.length_drop, List.length_cons] at this
      omega
    have hx : cs[i]? = some c := by
      have := congrArg (·[0]?) hd
      simpa using this
    have hd' : cs.drop (i + 1) = rest := by
      have := congrArg List.tail hd
      simpa using this
    have hw : wI6 ((i : Int) + 1) = ((i + 1 : Nat) : Int) := by rw [qdB (by omega)]; omega
    have hc := hs i c hx
    rw [qn2, ← List.append_assoc] at hlen ⊢
    have hle : (acc ++ qlC (setE m0 lv i) c).length ≤ 1000000000 := by rw [List.length_append] at hlen; omega
    have hgd : ((acc.map Tm.enc ++ (qlC (setE m0 lv i) c).map Tm.enc).length : Nat) * 64 ≤ 140737488355328 := by rw [← List.map_append, List.length_map]; omega
    have ih := zq1 hlv h1 h4 hl hs rest (i + 1) (setE m lv i) (acc ++ qlC (setE m0 lv i) c) (fun j => by rw [zq8 h1 h4, hm]) hd' hlen
    rw [List.map_append] at ih
    have hmi := hm i
    rw [← hmi] at hc hgd ih ⊢
    refine qaT ?_
    rcases (by omega : lv = 1 ∨ lv = 2 ∨ lv = 3 ∨ lv = 4) with rfl | rfl | rfl | rfl
    · have wl : wI6 (((1 : Nat) : Int) - 1) = 0 := by decide
      simp only [qa7, hlv, wl, hw]
      exact ev_t (by simp; omega) (qb6 (qjR hx) (ev_t rfl (qaP hc (qhC hgd ih))))
    · have wl : wI6 (((2 : Nat) : Int) - 1) = 1 := by decide
      simp only [qa7, hlv, wl, hw]
      exact ev_t (by simp; omega) (qb6 (qjR hx) (ev_f rfl (ev_t rfl (qaP hc (qhC hgd ih)))))
    · have wl : wI6 (((3 : Nat) : Int) - 1) = 2 := by decide
      simp only [qa7, hlv, wl, hw]
      exact ev_t (by simp; omega) (qb6 (qjR hx) (ev_f rfl (ev_f rfl (ev_t rfl (qaP hc (qhC hgd ih))))))
    · have wl : wI6 (((4 : Nat) : Int) - 1) = 3 := by decide
      simp only [qa7, hlv, wl, hw]
      exact ev_t (by simp; omega) (qb6 (qjR hx) (ev_f rfl (ev_f rfl (ev_f rfl (ev_t rfl (qaP hc (qhC hgd ih)))))))
theorem q7K {n w : Nat} (hw1 : 1 ≤ w) (hw : w ≤ 100) : ∀ (L : Nat) (p : P) (m : Mn), P.C L p → L ≤ 4 → P.W n w p → Ev (fun K => qa7 K (.c0 p.enc m.enc)) ((qlC m p).map Tm.enc) := by
  intro L
  induction L using Nat.strongRecOn with
  | _ L ih =>
    intro p m hC hL hW
    cases p with
    | k c =>
      refine qaT ?_
      simp only [qa7]
      exact ev_t rfl (qeQ (qa3 _) (by rw [qlC]; rfl))
    | p lv cs =>
      have hlen := zbL n w L _ m hC hW hw1
      have hpw : w ^ L ≤ 100 ^ 4 := Nat.le_trans (Nat.pow_le_pow_left hw L) (Nat.pow_le_pow_right (by omega) hL)
      rw [P.C] at hC
      rw [P.W] at hW
      cases cs with
      | nil => simp at hC
      | cons c cs =>
      have hs : ∀ (i : Nat) x, (c :: cs)[i]? = some x → Ev (fun K => qa7 K (.c0 x.enc (setE m lv i).enc)) ((qlC (setE m lv i) x).map Tm.enc) := fun i x hx =>
        ih (lv - 1) (by omega) x _ (quY hC.2.2.2.1 x (List.mem_of_getElem? hx)) (by omega) (qxL hW.2 x (List.mem_of_getElem? hx))
      have hne := zoF (lv - 1) c (setE m lv 0) (quY hC.2.2.2.1 c (by simp))
      have hc := hs 0 c rfl
      have hw0 : wI6 ((0 : Int) + 1) = ((1 : Nat) : Int) := by decide
      have hx : gid qcA (P.raws (c :: cs)) (0 : Int) = some c.enc := qjR (i := 0) rfl
      rw [qlC, qn2, Nat.zero_add] at hlen
      have hle : (qlC (setE m lv 0) c).length ≤ 100 ^ 4 := by rw [List.length_append] at hlen; omega
      have hgd : ((qlC (setE m lv 0) c).map Tm.enc).length * 64 ≤ 140737488355328 := by rw [List.length_map]; omega
      have hpos : decide (0 < ((qlC (setE m lv 0) c).map Tm.enc).length) = true := by rw [List.length_map]; exact decide_eq_true hne
      have htail := zq1 (pp := (P.p lv (c :: cs)).enc) (lv := lv) rfl hC.1 (by omega) (cs := c :: cs) (by omega) hs cs 1 (setE m lv 0) (qlC (setE m lv 0) c) (fun j => zq8 hC.1 (by omega) m 0 j) rfl (by omega)
      refine qaT ?_
      simp only [qa7]
      refine ev_f (decide_eq_false (by show ¬ ((lv : Int) = 0); omega)) ?_
      refine qaT ?_
      have hL2 : (P.p lv (c :: cs)).enc.Level = (lv : Int) := rfl
      have hco : (P.p lv (c :: cs)).enc.Coefs = P.raws (c :: cs) := rfl
      rw [qlC, qn2]
      rcases (by omega : lv = 1 ∨ lv = 2 ∨ lv = 3 ∨ lv = 4) with rfl | rfl | rfl | rfl
      · have wl : wI6 (((1 : Nat) : Int) - 1) = 0 := by decide
        simp only [qa7, hL2, hco, qeY, wl, hw0]
        exact ev_t (by simp) (qb6 hx (ev_t rfl (qaP hc (ev_t hpos (qhC hgd htail)))))
      · have wl : wI6 (((2 : Nat) : Int) - 1) = 1 := by decide
        simp only [qa7, hL2, hco, qeY, wl, hw0]
        exact ev_t (by simp) (qb6 hx (ev_f rfl (ev_t rfl (qaP hc (ev_t hpos (qhC hgd htail))))))
      · have wl : wI6 (((3 : Nat) : Int) - 1) = 2 := by decide
        simp only [qa7, hL2, hco, qeY, wl, hw0]
        exact ev_t (by simp) (qb6 hx (ev_f rfl (ev_f rfl (ev_t rfl (qaP hc (ev_t hpos (qhC hgd htail)))))))
      · have wl : wI6 (((4 : Nat) : Int) - 1) = 3 := by decide
        simp only [qa7, hL2, hco, qeY, wl, hw0]
        exact ev_t (by simp) (qb6 hx (ev_f rfl (ev_f rfl (ev_f rfl (ev_t rfl (qaP hc (ev_t hpos (qhC hgd htail))))))))
theorem zm7 {n w : Nat} {p : P} (hC : P.C 4 p) (hW : P.W n w p) (hn : n ≤ 100000) (hw1 : 1 ≤ w) (hw : w ≤ 100) :
    ∃ out, Ev (fun K => q4T K p.enc) (out.map Tm.enc) ∧ (∀ ρ, sumT ρ out = p.ev ρ) ∧ out.length ≤ w ^ 4 ∧ ∀ t ∈ out, t.c ≠ 0 ∧ (t.c.natAbs : Int) < 4294967296 ^ (n + 1) ∧ zbJ w t := by
  have hlen := zbL n w 4 p ⟨0, 0, 0, 0⟩ hC hW hw1
  have hpw : w ^ 4 ≤ 100 ^ 4 := Nat.pow_le_pow_left hw 4
  have hmem := zmG n w 4 p ⟨0, 0, 0, 0⟩ hC hW (Nat.le_refl _) fun c => ⟨hw1, hw1, hw1, hw1⟩
  have hev := fun ρ => zoG ρ 4 p ⟨0, 0, 0, 0⟩ hC (Nat.le_refl _) ⟨fun _ => rfl, fun _ => rfl, fun _ => rfl, fun _ => rfl⟩
  have hs : ((sumA (qlC ⟨0, 0, 0, 0⟩ p) : Nat) : Int) < 4294967296 ^ (n + 1) := by
    have hb := qfL n
    have h1 := zp2 (l := qlC ⟨0, 0, 0, 0⟩ p) (B := ((4294967296 : Int) ^ n).toNat) fun t ht => by have := (hmem t ht).1; omega
    rw [Int.pow_succ]
    have h2 : (qlC ⟨0, 0, 0, 0⟩ p).length * ((4294967296 : Int) ^ n).toNat ≤ 100000000 * ((4294967296 : Int) ^ n).toNat := Nat.mul_le_mul_right _ (by omega)
    omega
  obtain ⟨out, h1, h2⟩ := qu1 (n := n + 1) (by omega) (by omega) hs
  refine ⟨out, ?_, fun ρ => ?_, Nat.le_trans h2.len hlen, ziC h2 hs fun t ht => (hmem t ht).2⟩
  · refine qaT ?_
    simp only [q4T, qpM]
    refine qaP (qy0 hC hW (by omega) (by omega)) (qaP (q7K (n := n) hw1 hw 4 p ⟨0, 0, 0, 0⟩ hC (Nat.le_refl _) hW) (qaP h1 (qa3 _)))
  · rw [h2.ev ρ, hev ρ, Mn.ev]
    simp only [Rat.pow_zero]
    grind
theorem za4 {k q : Nat} {v x : Rat} {e : Nat} (hv : Sz q v) (hx : Sz k x) (hk : k ≤ 10000) (hq : q ≤ 1000000) (he : e ≤ 4) :
    Sz (q + (k * 4 + 1)) (v * x ^ e) ∧ (e ≠ 0 → Ev (fun K => qhM K (mkQ x) (e : Int)) (mkQ (x ^ e))) ∧ Ev (fun K => qeM K (mkQ v) (mkQ (x ^ e))) (mkQ (v * x ^ e)) := by
  have hp := qv3 (j := k * 4 + 1) (by have := Nat.mul_le_mul_left k he; omega) (zw2 hx e)
  exact ⟨q01 hv hp, fun h0 => zhC hx hk (by omega), qe4 hv hp (by omega)⟩
theorem zzA {k n s : Nat} {x1 x2 x3 x4 : Rat} (hk : k ≤ 100) (h1 : Sz k x1) (h2 : Sz k x2) (h3 : Sz k x3) (h4 : Sz k x4) (hn0 : 1 ≤ n) (hn : n ≤ 100000) (hs : s ≤ 100000000) (b4 : qaK) (b14 : List qaH) {out : Rat} (ho : Sz s out) {t : Tm} (ht : (t.c.natAbs : Int) < 4294967296 ^ n) (he : zbJ 5 t)
    {ρ : Nat → Rat} (r1 : ρ 1 = x1) (r2 : ρ 2 = x2) (r3 : ρ 3 = x3) (r4 : ρ 4 = x4) :
    Sz (s + (n + 16 * k + 4) + 1) (out + t.ev ρ) ∧ Ev (fun K => qqE K [mkQ x1, mkQ x2, mkQ x3, mkQ x4] b4 (mkQ out) b14 t.m.enc (mkI t.c)) (mkQ (out + t.ev ρ)) := by
  obtain ⟨c, ⟨e1, e2, e3, e4⟩⟩ := t
  obtain ⟨k1, k2, k3, k4⟩ := he
  simp only at ht k1 k2 k3 k4
  have z0 : Sz n (c : Rat) := by
    obtain ⟨n', rfl⟩ : ∃ n', n = n' + 1 := ⟨n - 1, by omega⟩
    exact zmH ht
  have sa := qrH ht (by omega)
  obtain ⟨s1, p1, f1⟩ := za4 z0 h1 (by omega) (by omega) (e := e1) (by omega)
  obtain ⟨s2, p2, f2⟩ := za4 s1 h2 (by omega) (by omega) (e := e2) (by omega)
  obtain ⟨s3, p3, f3⟩ := za4 s2 h3 (by omega) (by omega) (e := e3) (by omega)
  obtain ⟨s4, p4, f4⟩ := za4 s3 h4 (by omega) (by omega) (e := e4) (by omega)
  have e : Tm.ev ρ ⟨c, ⟨e1, e2, e3, e4⟩⟩ = (c : Rat) * x1 ^ e1 * x2 ^ e2 * x3 ^ e3 * x4 ^ e4 := by
    rw [Tm.ev, Mn.ev, r1, r2, r3, r4]; grind
  rw [e]
  have hadd := qwE ho s4 (by omega)
  refine ⟨qv3 (by omega) (zsT ho s4), ?_⟩
  have w0 : wI6 ((0 : Int) + 1) = 1 := by decide
  have w1 : wI6 ((1 : Int) + 1) = 2 := by decide
  have w2 : wI6 ((2 : Int) + 1) = 3 := by decide
  have w3 : wI6 ((3 : Int) + 1) = 4 := by decide
  have zero := qqI (z := 0) (by omega)
  obtain ⟨R, hR⟩ : ∃ R, R = out + (c : Rat) * x1 ^ e1 * x2 ^ e2 * x3 ^ e3 * x4 ^ e4 := ⟨_, rfl⟩
  rw [← hR] at hadd ⊢
  clear hR
  refine qaT ?_
  simp only [qqE, qbE]
  refine qaP (q1E sa) ?_
  have g4 : Ev (fun K => qbE K (.c2 [mkQ x1, mkQ x2, mkQ x3, mkQ x4] b4 (mkQ out) (mkQ ((c : Rat) * x1 ^ e1 * x2 ^ e2 * x3 ^ e3 * x4 ^ e4)) b14 (Mn.mk e1 e2 e3 e4).enc 3)) (mkQ R) := by
    refine qaT ?_
    simp only [qbE, w3]
    refine qaT ?_
    simp only [qbE]
    exact ev_f rfl (qaP hadd (qa3 _))
  have g3 : Ev (fun K => qbE K (.c2 [mkQ x1, mkQ x2, mkQ x3, mkQ x4] b4 (mkQ out) (mkQ ((c : Rat) * x1 ^ e1 * x2 ^ e2 * x3 ^ e3)) b14 (Mn.mk e1 e2 e3 e4).enc 2)) (mkQ R) := by
    refine qaT ?_
    simp only [qbE, w2]
    refine qaT ?_
    simp only [qbE]
    refine ev_t rfl (ev_f rfl (ev_f rfl (ev_f rfl (ev_t rfl ?_))))
    by_cases h : e4 = 0
    · subst h
      rw [Rat.pow_zero, Rat.mul_one] at g4
      exact ev_t rfl g4
    · exact ev_f (decide_eq_false (by show ¬ ((e4 : Int) = 0); omega)) (qaP zero (ev_t rfl (qb6 (x := mkQ x4) rfl (qaP (p4 h) (qaP f4 g4)))))
  have g2 : Ev (fun K => qbE K (.c2 [mkQ x1, mkQ x2, mkQ x3, mkQ x4] b4 (mkQ out) (mkQ ((c : Rat) * x1 ^ e1 * x2 ^ e2)) b14 (Mn.mk e1 e2 e3 e4).enc 1)) (mkQ R) := by
    refine qaT ?_
    simp only [qbE, w1]
    refine qaT ?_
    simp only [qbE]
    refine ev_t rfl (ev_f rfl (ev_f rfl (ev_t rfl ?_)))
    by_cases h : e3 = 0
    · subst h
      rw [Rat.pow_zero, Rat.mul_one] at g3
      exact ev_t rfl g3
    · exact ev_f (decide_eq_false (by show ¬ ((e3 : Int) = 0); omega)) (qaP zero (ev_t rfl (qb6 (x := mkQ x3) rfl (qaP (p3 h) (qaP f3 g3)))))
  have g1 : Ev (fun K => qbE K (.c2 [mkQ x1, mkQ x2, mkQ x3, mkQ x4] b4 (mkQ out) (mkQ ((c : Rat) * x1 ^ e1)) b14 (Mn.mk e1 e2 e3 e4).enc 0)) (mkQ R) := by
    refine qaT ?_
    simp only [qbE, w0]
    refine qaT ?_
    simp only [qbE]
    refine ev_t rfl (ev_f rfl (ev_t rfl ?_))
    by_cases h : e2 = 0
    · subst h
      rw [Rat.pow_zero, Rat.mul_one] at g2
      exact ev_t rfl g2
    · exact ev_f (decide_eq_false (by show ¬ ((e2 : Int) = 0); omega)) (qaP zero (ev_t rfl (qb6 (x := mkQ x2) rfl (qaP (p2 h) (qaP f2 g2)))))
  refine qaT ?_
  simp only [qbE]
  refine ev_t rfl (ev_t rfl ?_)
  by_cases h : e1 = 0
  · subst h
    rw [Rat.pow_zero, Rat.mul_one] at g1
    exact ev_t rfl g1
  · exact ev_f (decide_eq_false (by show ¬ ((e1 : Int) = 0); omega)) (qaP zero (ev_t rfl (qb6 (x := mkQ x1) rfl (qaP (p1 h) (qaP f1 g1)))))
theorem ztS {k n : Nat} {x1 x2 x3 x4 : Rat} (hk : k ≤ 100) (h1 : Sz k x1) (h2 : Sz k x2) (h3 : Sz k x3) (h4 : Sz k x4) (hn0 : 1 ≤ n) (hn : n ≤ 10000) (b4 : qaK) (b14 : List qaH)
    {ρ : Nat → Rat} (r1 : ρ 1 = x1) (r2 : ρ 2 = x2) (r3 : ρ 3 = x3) (r4 : ρ 4 = x4) : ∀ (rest : List Tm) (s : Nat) (acc : Rat), s + rest.length * (n + 16 * k + 5) ≤ 100000000 → (∀ t ∈ rest, (t.c.natAbs : Int) < 4294967296 ^ n ∧ zbJ 5 t) → Sz s acc →
    Sz (s + rest.length * (n + 16 * k + 5)) (acc + sumT ρ rest) ∧ Ev (fun K => itT K (fun z m c => qqE K [mkQ x1, mkQ x2, mkQ x3, mkQ x4] b4 z b14 m c) (mkQ acc) (rest.map Tm.enc)) (mkQ (acc + sumT ρ rest))
  | [], s, acc, hs, hr, hz => by
    rw [sumT, Rat.add_zero]
    exact ⟨qv3 (by simp) hz, qa3 _⟩
  | t :: rest, s, acc, hs, hr, hz => by
    obtain ⟨ht, he⟩ := hr t (by simp)
    rw [List.length_cons, Nat.add_mul, Nat.one_mul] at hs ⊢
    obtain ⟨k1, k2⟩ := zzA hk h1 h2 h3 h4 hn0 (by omega) (by omega) b4 b14 hz ht he r1 r2 r3 r4
    obtain ⟨k3, k4⟩ := ztS hk h1 h2 h3 h4 hn0 hn b4 b14 r1 r2 r3 r4 rest (s + (n + 16 * k + 4) + 1) (acc + t.ev ρ) (by omega) (fun t h => hr t (by simp [h])) k1
    have sa := qrH ht (by omega)
    have hN := qkE sa.1 (by have := sa.2; omega)
    rw [qcY] at hN
    have e : acc + sumT ρ (t :: rest) = acc + t.ev ρ + sumT ρ rest := by rw [sumT]; grind
    rw [e]
    exact ⟨qv3 (by omega) k3, qaP hN (qaP k2 k4)⟩
theorem zp0 : Sz 1 (0 : Rat) := by refine ⟨?_, ?_⟩ <;> decide
theorem zhV {k n : Nat} {x1 x2 x3 x4 : Rat} (hk : k ≤ 100) (h1 : Sz k x1) (h2 : Sz k x2) (h3 : Sz k x3) (h4 : Sz k x4) (hn : n ≤ 1000) {ρ : Nat → Rat} (r1 : ρ 1 = x1) (r2 : ρ 2 = x2) (r3 : ρ 3 = x3) (r4 : ρ 4 = x4)
    {p : P} (hC : P.C 4 p) (hW : P.W n 5 p) : Sz (1 + 625 * (n + 16 * k + 7)) (p.ev ρ) ∧ Ev (fun K => qxT K p.enc [mkQ x1, mkQ x2, mkQ x3, mkQ x4]) (mkQ (p.ev ρ)) := by
  obtain ⟨l, a1, a2, a3, a4⟩ := zm7 hC hW (by omega) (by omega) (by omega)
  have hb := qfL (n + 1)
  have hs : ((sumA l : Nat) : Int) < 4294967296 ^ (n + 2) := by
    have h1 := zp2 (l := l) (B := ((4294967296 : Int) ^ (n + 1)).toNat) fun t ht => by have := (a4 t ht).2.1; omega
    rw [Int.pow_succ]
    have h2 : l.length * ((4294967296 : Int) ^ (n + 1)).toNat ≤ 625 * ((4294967296 : Int) ^ (n + 1)).toNat := Nat.mul_le_mul_right _ (by omega)
    omega
  obtain ⟨out, b1, b2⟩ := qu1 (l := l) (n := n + 2) (by omega) (by omega) hs
  have hol := b2.len
  have hmem := ziC b2 hs fun t ht => (a4 t ht).2.2
  have hmul : out.length * (n + 2 + 16 * k + 5) ≤ 625 * (n + 2 + 16 * k + 5) := Nat.mul_le_mul_right _ (by omega)
  obtain ⟨c1, c2⟩ := ztS hk h1 h2 h3 h4 (n := n + 2) (by omega) (by omega) ⟨⟨false, []⟩, []⟩ (out.map Tm.enc) r1 r2 r3 r4 out 1 0 (by omega) (fun t ht => (hmem t ht).2) zp0
  have e : (0 : Rat) + sumT ρ out = p.ev ρ := by rw [b2.ev ρ, a2 ρ, Rat.zero_add]
  rw [e] at c1 c2
  refine ⟨qv3 (by omega) c1, ?_⟩
  refine qaT ?_
  simp only [qxT, qmD]
  refine qaP a1 (qaP (x := mkQ (p.ev ρ)) ?_ (qa3 _))
  refine qaT ?_
  simp only [q7G, qg3]
  refine qaP (qqI (z := 0) (by omega)) (qaP (x := out.map Tm.enc) ?_ ?_)
  · refine qaT ?_
    simp only [qoU, qg4]
    exact qaP b1 (qa3 _)
  · refine qaT ?_
    simp only [qg3]
    exact qaP c2 (qhC (by rw [List.length_map]; omega) (qa3 _))
open Go.Proofs.Try (prog)
inductive qvS where
 | c0 (a : (List qbV))
 | c1 (t6 : (List qbV)) (t7 : Int) (t8 : Int)
 | c2 (r20 : (List qaJ)) (t6 : (List qbV)) (t7 : Int) (t8 : Int)
def qe8 : Nat → qvS → Option (List qaJ)
 | 0, _ => none
 | K + 1, .c0 a =>
  qe8 K (.c1 a (a.length : Int) (0 : Int))
 | K + 1, .c1 t6 t7 t8 =>
  bif (decide (t8 < t7)) then
   (gi t6 t8).bind fun x2 =>
   (qiW K (qaJ.mk x2.Lo x2.Hi)).bind fun x4 =>
   qe8 K (.c2 ([(qaJ.mk x4.Lo x4.Hi)] : List qaJ) t6 t7 (wI6 (t8 + (1 : Int))))
  else
   some []
 | K + 1, .c2 r20 t6 t7 t8 =>
  bif (decide (t8 < t7)) then
   (gi t6 t8).bind fun x2 =>
   (qiW K (qaJ.mk x2.Lo x2.Hi)).bind fun x4 =>
   gd ((r20 ++ ([(qaJ.mk x4.Lo x4.Hi)] : List qaJ)).length * 112 ≤ 140737488355328) <|
   qe8 K (.c2 (r20 ++ ([(qaJ.mk x4.Lo x4.Hi)] : List qaJ)) t6 t7 (wI6 (t8 + (1 : Int))))
  else
   some r20
def q9P (K : Nat) (a : (List qbV)) : Option (List qaJ) := qe8 K (.c0 a)
noncomputable def qqJ : Code := qcK prog 32
noncomputable def znG : qvS → List Fr
 | .c0 .. => [.code qqJ]
 | .c1 .. => [.code (.loop (atC qqJ [1,1,0,1,0,0])), .blk 0, .code (atC qqJ [1,1,1])]
 | .c2 .. => [.code (.loop (atC qqJ [1,1,0,1,0,0])), .blk 0, .code (atC qqJ [1,1,1])]
def zo0 : qvS → St
 | .c0 a => St.init [(tl 10 a qa6)]
 | .c1 t6 t7 t8 => ⟨[(3, .c (C.nil)), (6, vl 10 t6 qa6), (7, vi .i64 t7), (8, vi .i64 t8)], [], []⟩
 | .c2 r20 t6 t7 t8 => ⟨[(3, .c (C.row 20 0 r20.length)), (6, vl 10 t6 qa6), (7, vi .i64 t7), (8, vi .i64 t8)], [(20, .row 74 6 (r20.map qaM) 0)], []⟩
def q0B (cx : Cx) (c : qvS) (r : (List qaJ)) : Prop := Wk prog cx (qd0 prog 32 [[6]] (tl 6 r qaM)) (znG c) .normal (zo0 c)
abbrev q0C (K : Nat) : Prop := ∀ c r, qe8 K c = some r → ∀ cx : Cx, cx.n = 23 → q0B cx c r
theorem zo4 {K} (ih : q0C K) {cx} (hn : cx.n = 23) {a} {r} (h : qe8 (K + 1) (.c0 a) = some r) : q0B cx (.c0 a) r := by
 rw [qe8] at h
 exact wkG [rg1, rg1, rgG [oo, opI (.ln (a.length : Int)), oo], .pre [.keep [3,6,7,8] []]] hn (aC (qdF a qa6) <| aN) (ih _ _ h cx hn)
theorem zo3 {K} (ih : q0C K) {cx} (hn : cx.n = 23) {t6 t7 t8} {r} (h : qe8 (K + 1) (.c1 t6 t7 t8) = some r) : q0B cx (.c1 t6 t7 t8) r := by
 rw [qe8] at h
 rcases qaY h with ⟨h1, h⟩ | ⟨h1, h⟩
 ·obtain ⟨x2, h3, h⟩ := qaV h
  obtain ⟨x4, h5, h⟩ := qaV h
  exact wkG [.go, rg1, bTr, rgG [opI (.ix (qa6 x2)), oo, oo, oo], rgG [oo, oo, oo, oo, oo, oo, opI (.call [[0,1,1,0,1,1]] [(TV.agg (qaM (qaJ.mk x2.Lo x2.Hi)))] (TV.agg (qaM x4))), opI (.lit (([(qaJ.mk x4.Lo x4.Hi)] : List qaJ).map qaM)), opI (.appN (([(qaJ.mk x4.Lo x4.Hi)] : List qaJ).map qaM)), oo], rg2, .pre [.rl 3 0 ([(qaJ.mk x4.Lo x4.Hi)] : List qaJ).length, .keep [3,6,7,8] [20]]] hn (aC h1 <| aC (qb2 h3) <| aC (qfK qa6 h3) <| aC (qiV h5) <| aC (by kernel_rfl : [(T.bool x4.Lo.Num.Neg), (T.sl 1 (x4.Lo.Num.Abs.map qaE)), (T.sl 1 (x4.Lo.Den.map qaE)), (T.bool x4.Hi.Num.Neg), (T.sl 1 (x4.Hi.Num.Abs.map qaE)), (T.sl 1 (x4.Hi.Den.map qaE))] = (([(qaJ.mk x4.Lo x4.Hi)] : List qaJ).map qaM).flatten) <| aC (qfA _ _ _ (by simp) : ((([(qaJ.mk x4.Lo x4.Hi)] : List qaJ).map qaM).drop 0).take 1 = ([(qaJ.mk x4.Lo x4.Hi)] : List qaJ).map qaM) <| aC (by simp : 0 < (([(qaJ.mk x4.Lo x4.Hi)] : List qaJ).map qaM).length) <| aC (by simp : (([(qaJ.mk x4.Lo x4.Hi)] : List qaJ).map qaM).length * 112 ≤ 140737488355328) <| aC (by simp [maxLen] : (([(qaJ.mk x4.Lo x4.Hi)] : List qaJ).map qaM).length ≤ maxLen) <| aC r0 <| aC (by simp : (([(qaJ.mk x4.Lo x4.Hi)] : List qaJ).map qaM).length = ([(qaJ.mk x4.Lo x4.Hi)] : List qaJ).length) <| aN) (ih _ _ h cx hn)
 ·have h := oinj h; subst h
  exact wkR [.go, rg1, bFa, rg2] hn (aC h1 <| aN)
theorem zo2 {K} (ih : q0C K) {cx} (hn : cx.n = 23) {r20 t6 t7 t8} {r} (h : qe8 (K + 1) (.c2 r20 t6 t7 t8) = some r) : q0B cx (.c2 r20 t6 t7 t8) r := by
 rw [qe8] at h
 rcases qaY h with ⟨h1, h⟩ | ⟨h1, h⟩
 ·obtain ⟨x2, h3, h⟩ := qaV h
  obtain ⟨x4, h5, h⟩ := qaV h
  obtain ⟨h6, h⟩ := qb3 h
  exact wkG [.go, rg1, bTr, rgG [opI (.ix (qa6 x2)), oo, oo, oo], .pre [.keep [3,5,6,7,8] [5,20]], rgG [oo, oo, oo, oo, oo, oo, opI (.call [[0,1,1,0,1,1]] [(TV.agg (qaM (qaJ.mk x2.Lo x2.Hi)))] (TV.agg (qaM x4))), opI (.lit (([(qaJ.mk x4.Lo x4.Hi)] : List qaJ).map qaM)), .appR (([(qaJ.mk x4.Lo x4.Hi)] : List qaJ).map qaM) ((r20 ++ ([(qaJ.mk x4.Lo x4.Hi)] : List qaJ)).map qaM), oo], rg2, .pre [.rl 3 0 (r20 ++ ([(qaJ.mk x4.Lo x4.Hi)] : List qaJ)).length, .keep [3,6,7,8] [20]]] hn (aC h1 <| aC (qb2 h3) <| aC (qfK qa6 h3) <| aC (qiV h5) <| aC (by kernel_rfl : [(T.bool x4.Lo.Num.Neg), (T.sl 1 (x4.Lo.Num.Abs.map qaE)), (T.sl 1 (x4.Lo.Den.map qaE)), (T.bool x4.Hi.Num.Neg), (T.sl 1 (x4.Hi.Num.Abs.map qaE)), (T.sl 1 (x4.Hi.Den.map qaE))] = (([(qaJ.mk x4.Lo x4.Hi)] : List qaJ).map qaM).flatten) <| aC (by simp : r20.length = (r20.map qaM).length) <| aC (qfA _ _ _ (by simp) : ((([(qaJ.mk x4.Lo x4.Hi)] : List qaJ).map qaM).drop 0).take 1 = ([(qaJ.mk x4.Lo x4.Hi)] : List qaJ).map qaM) <| aC (qxK _ _ _ : r20.map qaM ++ ([(qaJ.mk x4.Lo x4.Hi)] : List qaJ).map qaM = (r20 ++ ([(qaJ.mk x4.Lo x4.Hi)] : List qaJ)).map qaM) <| aC ((qeG _ _).symm ▸ h6 : ((r20 ++ ([(qaJ.mk x4.Lo x4.Hi)] : List qaJ)).map qaM).length * 112 ≤ 140737488355328) <| aC ((qeG _ _).symm ▸ room (by decide) h6 : ((r20 ++ ([(qaJ.mk x4.Lo x4.Hi)] : List qaJ)).map qaM).length ≤ maxLen) <| aC r0 <| aC (by simp : ((r20 ++ ([(qaJ.mk x4.Lo x4.Hi)] : List qaJ)).map qaM).length = (r20 ++ ([(qaJ.mk x4.Lo x4.Hi)] : List qaJ)).length) <| aN) (ih _ _ h cx hn)
 ·have h := oinj h; subst h
  exact wkR [.go, rg1, bFa, rgG [oo, oo, .snap 2 (max 0 (0 + r20.length)) (r20.map qaM)]] hn (aC h1 <| aC (qfA _ _ _ (by simp) : ((r20.map qaM).drop 0).take r20.length = r20.map qaM) <| aC (rfl : (max 0 (0 + r20.length)) = (max 0 (0 + r20.length))) <| aN)
theorem qvR : ∀ K : Nat, q0C K
 | 0, c, r, h => by rw [qe8] at h; cases h
 | K + 1, .c0 .., r, h => fun cx hn => zo4 (qvR K) hn h
 | K + 1, .c1 .., r, h => fun cx hn => zo3 (qvR K) hn h
 | K + 1, .c2 .., r, h => fun cx hn => zo2 (qvR K) hn h
theorem ziA {K : Nat} {a : (List qbV)} {r : (List qaJ)} (h : q9P K a = some r) : qc0 prog 32 [(tl 10 a qa6)] (tl 6 r qaM) :=
 qbG [[6]] (by kernel_rfl) (by simp) fun cx hn => qvR K (.c0 a) r h cx hn
open Go.Proofs.Try (prog)
inductive qpS where
 | c0 (p : qaI) (box : (List qaJ))
 | c1 (p : qaI) (b4 : qaJ) (out : qaJ) (box : (List qaJ)) (i : Int)
def qc6 : Nat → qpS → Option qaJ
 | 0, _ => none
 | K + 1, .c0 p box =>
  bif (decide (p.Level ≤ (0 : Int))) then
   (qsI K p.Const).bind fun x2 =>
   (quB K x2).bind fun x4 =>
   some (qaJ.mk x4.Lo x4.Hi)
  else
   (gid qcA p.Coefs (wI6 ((p.Coefs.length : Int) - (1 : Int)))).bind fun x2 =>
   (qc6 K (.c0 x2 box)).bind fun x4 =>
   qc6 K (.c1 p (qaJ.mk (qaK.mk (qaG.mk false []) []) (qaK.mk (qaG.mk false []) [])) (qaJ.mk x4.Lo x4.Hi) box (wI6 ((wI6 ((p.Coefs.length : Int) - (1 : Int))) - (1 : Int))))
 | K + 1, .c1 p b4 out box i =>
  bif (decide ((0 : Int) ≤ i)) then
   (gi box (wI6 (p.Level - (1 : Int)))).bind fun x2 =>
   (quP K (qaJ.mk out.Lo out.Hi) (qaJ.mk x2.Lo x2.Hi)).bind fun x4 =>
   (gid qcA p.Coefs i).bind fun x6 =>
   (qc6 K (.c0 x6 box)).bind fun x8 =>
   (quQ K (qaJ.mk x4.Lo x4.Hi) (qaJ.mk x8.Lo x8.Hi)).bind fun x10 =>
   qc6 K (.c1 p (qaJ.mk b4.Lo b4.Hi) (qaJ.mk x10.Lo x10.Hi) box (wI6 (i - (1 : Int))))
  else
   some (qaJ.mk out.Lo out.Hi)
def q9L (K : Nat) (p : qaI) (box : (List qaJ)) : Option qaJ := qc6 K (.c0 p box)
noncomputable def qsK : Code := qcK prog 82
noncomputable def zcO : qpS → List Fr
 | .c0 .. => [.code qsK]
 | .c1 .. => [.code (.loop (atC qsK [1,1,1,1,0,1,0,0])), .blk 0, .code (atC qsK [1,1,1,1,1])]
def zfT : qpS → St
 | .c0 p box => St.init [(TV.agg (qaB p)), (tl 6 box qaM)]
 | .c1 p b4 out box i => ⟨[(1, vl 6 box qaM), (2, .c (C.ptr 2 0)), (4, .c (C.ptr 4 0)), (6, .c (C.ptr 6 0)), (7, vi .i64 i)], [(2, .var ((qaB p).map C.t)), (4, .var ((qaM (qaJ.mk b4.Lo b4.Hi)).map C.t)), (6, .var ((qaM (qaJ.mk out.Lo out.Hi)).map C.t))], []⟩
def qwF (cx : Cx) (c : qpS) (r : qaJ) : Prop := Wk prog cx (qd0 prog 82 [[0,1,1,0,1,1]] (TV.agg (qaM r))) (zcO c) .normal (zfT c)
abbrev qsL (K : Nat) : Prop := ∀ c r, qc6 K c = some r → ∀ cx : Cx, cx.n = 49 → qwF cx c r
theorem qxW (K : Nat) (ih : qsL K) {p : qaI} {box : (List qaJ)} {r : qaJ} (h : qc6 K (.c0 p box) = some r) : qc0 prog 82 [(TV.agg (qaB p)), (tl 6 box qaM)] (TV.agg (qaM r)) :=
 qbG [[0,1,1,0,1,1]] (by kernel_rfl) (by simp) fun cx hn => ih (.c0 p box) r h cx hn
theorem zfV {K} (ih : qsL K) {cx} (hn : cx.n = 49) {p box} {r} (h : qc6 (K + 1) (.c0 p box) = some r) : qwF cx (.c0 p box) r := by
 rw [qc6] at h
 rcases qaY h with ⟨h1, h⟩ | ⟨h1, h⟩
 ·obtain ⟨x2, h3, h⟩ := qaV h
  obtain ⟨x4, h5, h⟩ := qaV h
  have h := oinj h; subst h
  exact wkR [rg2, rg3, bTr, rgG [oo, oo, opI (.call [[0,1]] [(TV.agg (qaD p.Const))] (TV.agg (qaC x2))), opI (.call [[0,1,1]] [(TV.agg (qaC x2))] (TV.agg (qaM x4))), oo]] hn (aC h1 <| aC (qwC h3) <| aC (q5P h5) <| aN)
 ·obtain ⟨x2, h3, h⟩ := qaV h
  obtain ⟨x4, h5, h⟩ := qaV h
  exact wkG [rg2, rg3, bFa, rgG [oo, oo, opI (.ln (p.Coefs.length : Int)), oo, oo], rgG [oo, oo, oo, opI (.ix (qaB x2)), oo, oo, opI (.call [[0,0,1,4], [6]] [(TV.agg (qaB x2)), (tl 6 box qaM)] (TV.agg (qaM x4))), oo, oo], rg3, .pre [.tellB 4 [0,1,1,0,1,1], .keep [1,2,4,6,7] [2,4,6]]] hn (aC h1 <| aC (qdF p.Coefs rid) <| aC (qkO h3 : 0 ≤ (wI6 ((p.Coefs.length : Int) - (1 : Int)))) <| aC (qnR @qa9 h3 : (p.Coefs.map rid)[(wI6 ((p.Coefs.length : Int) - (1 : Int))).toNat]? = some (qaB x2)) <| aC (qxW K ih h5 : qc0 prog 82 [(TV.agg (qaB x2)), (tl 6 box qaM)] (TV.agg (qaM x4))) <| aN) (ih _ _ h cx hn)
theorem zfU {K} (ih : qsL K) {cx} (hn : cx.n = 49) {p b4 out box i} {r} (h : qc6 (K + 1) (.c1 p b4 out box i) = some r) : qwF cx (.c1 p b4 out box i) r := by
 rw [qc6] at h
 rcases qaY h with ⟨h1, h⟩ | ⟨h1, h⟩
 ·obtain ⟨x2, h3, h⟩ := qaV h
  obtain ⟨x4, h5, h⟩ := qaV h
  obtain ⟨x6, h7, h⟩ := qaV h
  obtain ⟨x8, h9, h⟩ := qaV h
  obtain ⟨x10, h11, h⟩ := qaV h
  exact wkG [.go, rg2, bTr, .draw [.p, .p, .p, .p, .p, (.ix (qaM x2)), .p, (.call [[0,1,1,0,1,1], [0,1,1,0,1,1]] [(TV.agg (qaM (qaJ.mk out.Lo out.Hi))), (TV.agg (qaM (qaJ.mk x2.Lo x2.Hi)))] (TV.agg (qaM x4))), .p, .p, .p, (.ix (qaB x6)), .p, .p] [opI (.call [[0,0,1,4], [6]] [(TV.agg (qaB x6)), (tl 6 box qaM)] (TV.agg (qaM x8))), opI (.call [[0,1,1,0,1,1], [0,1,1,0,1,1]] [(TV.agg (qaM (qaJ.mk x4.Lo x4.Hi))), (TV.agg (qaM (qaJ.mk x8.Lo x8.Hi)))] (TV.agg (qaM x10))), .op .p], rg3, .pre [.keep [1,2,4,6,7] [2,4,6]]] hn (aC h1 <| aC (qb2 h3) <| aC (qfK qaM h3) <| aC (zaM h5) <| aC (qkO h7 : 0 ≤ i) <| aC (qnR @qa9 h7 : (p.Coefs.map rid)[i.toNat]? = some (qaB x6)) <| aC (qxW K ih h9 : qc0 prog 82 [(TV.agg (qaB x6)), (tl 6 box qaM)] (TV.agg (qaM x8))) <| aC (zaN h11) <| aN) (ih _ _ h cx hn)
 ·have h := oinj h; subst h
  exact wkR [.go, rg2, bFa, rg2] hn (aC h1 <| aN)
theorem qtQ : ∀ K : Nat, qsL K
 | 0, c, r, h => by rw [qc6] at h; cases h
 | K + 1, .c0 .., r, h => fun cx hn => zfV (qtQ K) hn h
 | K + 1, .c1 .., r, h => fun cx hn => zfU (qtQ K) hn h
theorem q7R {K : Nat} {p : qaI} {box : (List qaJ)} {r : qaJ} (h : q9L K p box = some r) : qc0 prog 82 [(TV.agg (qaB p)), (tl 6 box qaM)] (TV.agg (qaM r)) :=
 qbG [[0,1,1,0,1,1]] (by kernel_rfl) (by simp) fun cx hn => qtQ K (.c0 p box) r h cx hn
open Go.Proofs.Try (prog)
inductive qpT where
 | c0 (p : qaI) (a : (List qbV))
def qk6 : Nat → qpT → Option (qaJ × Int)
 | 0, _ => none
 | K + 1, .c0 p a =>
  (qqG K p).bind fun x1 =>
  bif (decide ((a.length : Int) < x1.Level)) then
   some ((qaJ.mk (qaK.mk (qaG.mk false []) []) (qaK.mk (qaG.mk false []) [])), (1 : Int))
  else
   (q9P K a).bind fun x4 =>
   (q9L K x1 x4).bind fun x6 =>
   some ((qaJ.mk x6.Lo x6.Hi), (0 : Int))
def qvQ (K : Nat) (p : qaI) (a : (List qbV)) : Option (qaJ × Int) := qk6 K (.c0 p a)
noncomputable def q9O : Code := qcK prog 38
noncomputable def zcP : qpT → List Fr
 | .c0 .. => [.code q9O]
def zfW : qpT → St
 | .c0 p a => St.init [(TV.agg (qaB p)), (tl 10 a qa6)]
def q3M (cx : Cx) (c : qpT) (r : (qaJ × Int)) : Prop := Wk prog cx (qd0 prog 38 [[0,1,1,0,1,1], [0]] (TV.tup [(true, qaM r.1), (false, [(T.int .i64 r.2)])])) (zcP c) .normal (zfW c)
abbrev q3N (K : Nat) : Prop := ∀ c r, qk6 K c = some r → ∀ cx : Cx, cx.n = 19 → q3M cx c r
theorem zfY {K} (_ : q3N K) {cx} (hn : cx.n = 19) {p a} {r} (h : qk6 (K + 1) (.c0 p a) = some r) : q3M cx (.c0 p a) r := by
 rw [qk6] at h
 obtain ⟨x1, h2, h⟩ := qaV h
 rcases qaY h with ⟨h3, h⟩ | ⟨h3, h⟩
 ·have h := oinj h; subst h
  exact wkR [rg3, rgG [oo, opI (.call [[0,0,1,4]] [(TV.agg (qaB p))] (TV.agg (qaB x1))), oo, oo], rgG [oo, oo, oo, opI (.ln (a.length : Int)), oo], bTr, rg3] hn (aC (qqB h2) <| aC (qdF a qa6) <| aC h3 <| aN)
 ·obtain ⟨x4, h5, h⟩ := qaV h
  obtain ⟨x6, h7, h⟩ := qaV h
  have h := oinj h; subst h
  exact wkR [rg3, rgG [oo, opI (.call [[0,0,1,4]] [(TV.agg (qaB p))] (TV.agg (qaB x1))), oo, oo], rgG [oo, oo, oo, opI (.ln (a.length : Int)), oo], bFa, .draw [.p, .p, (.call [[10]] [(tl 10 a qa6)] (tl 6 x4 qaM))] [opI (.call [[0,0,1,4], [6]] [(TV.agg (qaB x1)), (tl 6 x4 qaM)] (TV.agg (qaM x6))), .op .p, .op .p]] hn (aC (qqB h2) <| aC (qdF a qa6) <| aC h3 <| aC (ziA h5) <| aC (q7R h7) <| aN)
theorem qy7 : ∀ K : Nat, q3N K
 | 0, c, r, h => by rw [qk6] at h; cases h
 | K + 1, .c0 .., r, h => fun cx hn => zfY (qy7 K) hn h
theorem qrM {K : Nat} {p : qaI} {a : (List qbV)} {r : (qaJ × Int)} (h : qvQ K p a = some r) : qc0 prog 38 [(TV.agg (qaB p)), (tl 10 a qa6)] (TV.tup [(true, qaM r.1), (false, [(T.int .i64 r.2)])]) :=
 qbG [[0,1,1,0,1,1], [0]] (by kernel_rfl) (by simp) fun cx hn => qy7 K (.c0 p a) r h cx hn
open Go.Proofs.Try (prog)
inductive qvP where
 | c0 (r_v : qaK)
def qrU : Nat → qvP → Option qbV
 | 0, _ => none
 | K + 1, .c0 r_v =>
  (qg8 K r_v).bind fun x1 =>
  (qg8 K r_v).bind fun x3 =>
  some (qbV.mk (qaI.mk (0 : Int) (qaG.mk false []) []) x1 x3)
def q3L (K : Nat) (r_v : qaK) : Option qbV := qrU K (.c0 r_v)
noncomputable def zkV : Code := qcK prog 21
noncomputable def znF : qvP → List Fr
 | .c0 .. => [.code zkV]
def zoX : qvP → St
 | .c0 r_v => St.init [(TV.agg (qaC r_v))]
def zh7 (cx : Cx) (c : qvP) (r : qbV) : Prop := Wk prog cx (qd0 prog 21 [[0,0,1,4,0,1,1,0,1,1]] (TV.agg (qa6 r))) (znF c) .normal (zoX c)
abbrev zh8 (K : Nat) : Prop := ∀ c r, qrU K c = some r → ∀ cx : Cx, cx.n = 8 → zh7 cx c r
theorem zoY {K} (_ : zh8 K) {cx} (hn : cx.n = 8) {r_v} {r} (h : qrU (K + 1) (.c0 r_v) = some r) : zh7 cx (.c0 r_v) r := by
 rw [qrU] at h
 obtain ⟨x1, h2, h⟩ := qaV h
 obtain ⟨x3, h4, h⟩ := qaV h
 have h := oinj h; subst h
 exact wkR [rg2, .draw [.p, (.call [[0,1,1]] [(TV.agg (qaC r_v))] (TV.agg (qaC x1))), .p] [opI (.call [[0,1,1]] [(TV.agg (qaC r_v))] (TV.agg (qaC x3))), .op .p, .op .p]] hn (aC (qgP h2) <| aC (qgP h4) <| aN)
theorem q9M : ∀ K : Nat, zh8 K
 | 0, c, r, h => by rw [qrU] at h; cases h
 | K + 1, .c0 .., r, h => fun cx hn => zoY (q9M K) hn h
theorem q3K {K : Nat} {r_v : qaK} {r : qbV} (h : q3L K r_v = some r) : qc0 prog 21 [(TV.agg (qaC r_v))] (TV.agg (qa6 r)) :=
 qbG [[0,0,1,4,0,1,1,0,1,1]] (by kernel_rfl) (by simp) fun cx hn => q9M K (.c0 r_v) r h cx hn
open Go.Proofs.Try (prog)
inductive qxY where
 | c0 (list : (List qaK))
 | c1 (t6 : (List qaK)) (t7 : Int) (t8 : Int)
 | c2 (r16 : (List qbV)) (t6 : (List qaK)) (t7 : Int) (t8 : Int)
def qfS : Nat → qxY → Option (List qbV)
 | 0, _ => none
 | K + 1, .c0 list =>
  qfS K (.c1 list (list.length : Int) (0 : Int))
 | K + 1, .c1 t6 t7 t8 =>
  bif (decide (t8 < t7)) then
   (gi t6 t8).bind fun x2 =>
   (q3L K x2).bind fun x4 =>
   qfS K (.c2 ([x4] : List qbV) t6 t7 (wI6 (t8 + (1 : Int))))
  else
   some []
 | K + 1, .c2 r16 t6 t7 t8 =>
  bif (decide (t8 < t7)) then
   (gi t6 t8).bind fun x2 =>
   (q3L K x2).bind fun x4 =>
   gd ((r16 ++ ([x4] : List qbV)).length * 176 ≤ 140737488355328) <|
   qfS K (.c2 (r16 ++ ([x4] : List qbV)) t6 t7 (wI6 (t8 + (1 : Int))))
  else
   some r16
def q9N (K : Nat) (list : (List qaK)) : Option (List qbV) := qfS K (.c0 list)
noncomputable def qsM : Code := qcK prog 19
noncomputable def zoZ : qxY → List Fr
 | .c0 .. => [.code qsM]
 | .c1 .. => [.code (.loop (atC qsM [1,1,0,1,0,0])), .blk 0, .code (atC qsM [1,1,1])]
 | .c2 .. => [.code (.loop (atC qsM [1,1,0,1,0,0])), .blk 0, .code (atC qsM [1,1,1])]
def zp8 : qxY → St
 | .c0 list => St.init [(tl 3 list qaC)]
 | .c1 t6 t7 t8 => ⟨[(3, .c (C.nil)), (6, vl 3 t6 qaC), (7, vi .i64 t7), (8, vi .i64 t8)], [], []⟩
 | .c2 r16 t6 t7 t8 => ⟨[(3, .c (C.row 16 0 r16.length)), (6, vl 3 t6 qaC), (7, vi .i64 t7), (8, vi .i64 t8)], [(16, .row 56 10 (r16.map qa6) 0)], []⟩
def q4V (cx : Cx) (c : qxY) (r : (List qbV)) : Prop := Wk prog cx (qd0 prog 19 [[10]] (tl 10 r qa6)) (zoZ c) .normal (zp8 c)
abbrev q4W (K : Nat) : Prop := ∀ c r, qfS K c = some r → ∀ cx : Cx, cx.n = 19 → q4V cx c r
theorem zqB {K} (ih : q4W K) {cx} (hn : cx.n = 19) {list} {r} (h : qfS (K + 1) (.c0 list) = some r) : q4V cx (.c0 list) r := by
 rw [qfS] at h
 exact wkG [rg1, rg1, rgG [oo, opI (.ln (list.length : Int)), oo], .pre [.keep [3,6,7,8] []]] hn (aC (qdF list qaC) <| aN) (ih _ _ h cx hn)
theorem zqA {K} (ih : q4W K) {cx} (hn : cx.n = 19) {t6 t7 t8} {r} (h : qfS (K + 1) (.c1 t6 t7 t8) = some r) : q4V cx (.c1 t6 t7 t8) r := by
 rw [qfS] at h
 rcases qaY h with ⟨h1, h⟩ | ⟨h1, h⟩
 ·obtain ⟨x2, h3, h⟩ := qaV h
  obtain ⟨x4, h5, h⟩ := qaV h
  exact wkG [.go, rg1, bTr, rgG [opI (.ix (qaC x2)), oo, oo, oo], rgG [oo, oo, opI (.call [[0,1,1]] [(TV.agg (qaC x2))] (TV.agg (qa6 x4))), opI (.lit (([x4] : List qbV).map qa6)), opI (.appN (([x4] : List qbV).map qa6)), oo], rg2, .pre [.rl 3 0 ([x4] : List qbV).length, .keep [3,6,7,8] [16]]] hn (aC h1 <| aC (qb2 h3) <| aC (qfK qaC h3) <| aC (q3K h5) <| aC (by kernel_rfl : [(T.int .i64 x4.Poly.Level), (T.bool x4.Poly.Const.Neg), (T.sl 1 (x4.Poly.Const.Abs.map qaE)), (T.sl 4 (x4.Poly.Coefs.map rid)), (T.bool x4.Lo.Num.Neg), (T.sl 1 (x4.Lo.Num.Abs.map qaE)), (T.sl 1 (x4.Lo.Den.map qaE)), (T.bool x4.Hi.Num.Neg), (T.sl 1 (x4.Hi.Num.Abs.map qaE)), (T.sl 1 (x4.Hi.Den.map qaE))] = (([x4] : List qbV).map qa6).flatten) <| aC (qfA _ _ _ (by simp) : ((([x4] : List qbV).map qa6).drop 0).take 1 = ([x4] : List qbV).map qa6) <| aC (by simp : 0 < (([x4] : List qbV).map qa6).length) <| aC (by simp : (([x4] : List qbV).map qa6).length * 176 ≤ 140737488355328) <| aC (by simp [maxLen] : (([x4] : List qbV).map qa6).length ≤ maxLen) <| aC r0 <| aC (by simp : (([x4] : List qbV).map qa6).length = ([x4] : List qbV).length) <| aN) (ih _ _ h cx hn)
 ·have h := oinj h; subst h
  exact wkR [.go, rg1, bFa, rg2] hn (aC h1 <| aN)
theorem zp9 {K} (ih : q4W K) {cx} (hn : cx.n = 19) {r16 t6 t7 t8} {r} (h : qfS (K + 1) (.c2 r16 t6 t7 t8) = some r) : q4V cx (.c2 r16 t6 t7 t8) r := by
 rw [qfS] at h
 rcases qaY h with ⟨h1, h⟩ | ⟨h1, h⟩
 ·obtain ⟨x2, h3, h⟩ := qaV h
  obtain ⟨x4, h5, h⟩ := qaV h
  obtain ⟨h6, h⟩ := qb3 h
  exact wkG [.go, rg1, bTr, rgG [opI (.ix (qaC x2)), oo, oo, oo], .pre [.keep [3,5,6,7,8] [5,16]], rgG [oo, oo, opI (.call [[0,1,1]] [(TV.agg (qaC x2))] (TV.agg (qa6 x4))), opI (.lit (([x4] : List qbV).map qa6)), .appR (([x4] : List qbV).map qa6) ((r16 ++ ([x4] : List qbV)).map qa6), oo], rg2, .pre [.rl 3 0 (r16 ++ ([x4] : List qbV)).length, .keep [3,6,7,8] [16]]] hn (aC h1 <| aC (qb2 h3) <| aC (qfK qaC h3) <| aC (q3K h5) <| aC (by kernel_rfl : [(T.int .i64 x4.Poly.Level), (T.bool x4.Poly.Const.Neg), (T.sl 1 (x4.Poly.Const.Abs.map qaE)), (T.sl 4 (x4.Poly.Coefs.map rid)), (T.bool x4.Lo.Num.Neg), (T.sl 1 (x4.Lo.Num.Abs.map qaE)), (T.sl 1 (x4.Lo.Den.map qaE)), (T.bool x4.Hi.Num.Neg), (T.sl 1 (x4.Hi.Num.Abs.map qaE)), (T.sl 1 (x4.Hi.Den.map qaE))] = (([x4] : List qbV).map qa6).flatten) <| aC (by simp : r16.length = (r16.map qa6).length) <| aC (qfA _ _ _ (by simp) : ((([x4] : List qbV).map qa6).drop 0).take 1 = ([x4] : List qbV).map qa6) <| aC (qxK _ _ _ : r16.map qa6 ++ ([x4] : List qbV).map qa6 = (r16 ++ ([x4] : List qbV)).map qa6) <| aC ((qeG _ _).symm ▸ h6 : ((r16 ++ ([x4] : List qbV)).map qa6).length * 176 ≤ 140737488355328) <| aC ((qeG _ _).symm ▸ room (by decide) h6 : ((r16 ++ ([x4] : List qbV)).map qa6).length ≤ maxLen) <| aC r0 <| aC (by simp : ((r16 ++ ([x4] : List qbV)).map qa6).length = (r16 ++ ([x4] : List qbV)).length) <| aN) (ih _ _ h cx hn)
 ·have h := oinj h; subst h
  exact wkR [.go, rg1, bFa, rgG [oo, oo, .snap 2 (max 0 (0 + r16.length)) (r16.map qa6)]] hn (aC h1 <| aC (qfA _ _ _ (by simp) : ((r16.map qa6).drop 0).take r16.length = r16.map qa6) <| aC (rfl : (max 0 (0 + r16.length)) = (max 0 (0 + r16.length))) <| aN)
theorem qxX : ∀ K : Nat, q4W K
 | 0, c, r, h => by rw [qfS] at h; cases h
 | K + 1, .c0 .., r, h => fun cx hn => zqB (qxX K) hn h
 | K + 1, .c1 .., r, h => fun cx hn => zqA (qxX K) hn h
 | K + 1, .c2 .., r, h => fun cx hn => zp9 (qxX K) hn h
theorem qt6 {K : Nat} {list : (List qaK)} {r : (List qbV)} (h : q9N K list = some r) : qc0 prog 19 [(tl 3 list qaC)] (tl 10 r qa6) :=
 qbG [[10]] (by kernel_rfl) (by simp) fun cx hn => qxX K (.c0 list) r h cx hn
def cd (x : qaI × Rat × Rat) : qbV := ⟨x.1, mkQ x.2.1, mkQ x.2.2⟩
def ratC (q : Rat) : qaI × Rat × Rat := (⟨0, ⟨false, []⟩, []⟩, q, q)
def ivP (x : Rat × Rat) : qaJ := iv x.1 x.2
theorem zd5 {k : Nat} {q : Rat} (h : Sz k q) (hk : k ≤ 1000000000) : Ev (fun K => q3L K (mkQ q)) (cd (ratC q)) := by
  have := qlH h hk
  refine qaT ?_
  simp only [q3L, qrU]
  exact qaP this (qaP this (qa3 _))
theorem of_c2 {k : Nat} (hk : k ≤ 1000000000) {l : List Rat} (hl : l.length ≤ 1000000) (h : ∀ q ∈ l, Sz k q) : ∀ (d i : Nat), i + d = l.length →
    Ev (fun K => qfS K (.c2 ((l.take i).map fun q => cd (ratC q)) (l.map mkQ) (l.length : Int) (i : Int))) (l.map fun q => cd (ratC q))
  | 0, i, hi => by
    refine qaT ?_
    simp only [qfS]
    rw [List.take_of_length_le (by omega)]
    exact ev_f (by simp; omega) (qa3 _)
  | d + 1, i, hi => by
    obtain ⟨t, ht⟩ : ∃ c, l[i]? = some c := ⟨_, List.getElem?_eq_getElem (by omega)⟩
    have wi : wI6 ((i : Int) + 1) = ((i + 1 : Nat) : Int) := by rw [qdB (by omega)]; omega
    have hg : gi (l.map mkQ) (i : Int) = some (mkQ t) := za3 (by rw [List.getElem?_map, ht]; rfl)
    have e : ((l.take i).map fun q => cd (ratC q)) ++ [cd (ratC t)] = (l.take (i + 1)).map fun q => cd (ratC q) := by rw [List.take_add_one, ht, List.map_append]; rfl
    refine qaT ?_
    simp only [qfS, wi]
    refine ev_t (by simp; omega) (qb6 hg (qaP (zd5 (h t (List.mem_of_getElem? ht)) hk) (qhC (by simp; omega) ?_)))
    rw [e]
    exact of_c2 hk hl h d (i + 1) (by omega)
theorem zh9 {k : Nat} (hk : k ≤ 1000000000) {l : List Rat} (hl : l.length ≤ 1000000) (h : ∀ q ∈ l, Sz k q) : Ev (fun K => q9N K (l.map mkQ)) (l.map fun q => cd (ratC q)) := by
  refine qaT ?_
  simp only [q9N, qfS]
  refine qaT ?_
  simp only [qfS]
  cases l with
  | nil => exact ev_f (by simp) (qa3 _)
  | cons t l =>
    refine ev_t (decide_eq_true (by simp only [List.length_map, List.length_cons]; omega)) (qb6 (x := mkQ t) rfl (qaP (zd5 (h t (by simp)) hk) ?_))
    have := of_c2 hk hl h l.length 1 (by simp only [List.length_cons]; omega)
    rw [List.length_map, show wI6 ((0 : Int) + 1) = ((1 : Nat) : Int) by decide]
    exact this
def nrmI (x : Rat × Rat) : Rat × Rat := (lsQ x.1 x.2, gtQ x.1 x.2)
def SzI (k : Nat) (x : Rat × Rat) : Prop := Sz k x.1 ∧ Sz k x.2
theorem q8T {i j : Nat} (h : i ≤ j) {x : Rat × Rat} (hx : SzI i x) : SzI j x := ⟨qv3 h hx.1, qv3 h hx.2⟩
theorem zyN {k : Nat} {x : Rat × Rat} (h : SzI k x) : SzI k (nrmI x) := ⟨q45 h.1 h.2, q46 h.1 h.2⟩
theorem zxV {k : Nat} (hk : k ≤ 500000000) {l : List (qaI × Rat × Rat)} (hl : l.length ≤ 1000000) (h : ∀ q ∈ l, SzI k q.2) : ∀ (d i : Nat), i + d = l.length →
    Ev (fun K => qe8 K (.c2 ((l.take i).map fun q => ivP (nrmI q.2)) (l.map cd) (l.length : Int) (i : Int))) (l.map fun q => ivP (nrmI q.2))
  | 0, i, hi => by
    refine qaT ?_
    simp only [qe8]
    rw [List.take_of_length_le (by omega)]
    exact ev_f (by simp; omega) (qa3 _)
  | d + 1, i, hi => by
    obtain ⟨t, ht⟩ : ∃ c, l[i]? = some c := ⟨_, List.getElem?_eq_getElem (by omega)⟩
    have wi : wI6 ((i : Int) + 1) = ((i + 1 : Nat) : Int) := by rw [qdB (by omega)]; omega
    have hg : gi (l.map cd) (i : Int) = some (cd t) := za3 (by rw [List.getElem?_map, ht]; rfl)
    have e : ((l.take i).map fun q => ivP (nrmI q.2)) ++ [ivP (nrmI t.2)] = (l.take (i + 1)).map fun q => ivP (nrmI q.2) := by rw [List.take_add_one, ht, List.map_append]; rfl
    have hm := h t (List.mem_of_getElem? ht)
    have ih := zxV hk hl h d (i + 1) (by omega)
    rw [← e] at ih
    refine qaT ?_
    simp only [qe8, wi]
    exact ev_t (by simp; omega) (qb6 hg (qaP (qlM hm.1 hm.2 hk) (qhC (by simp; omega) ih)))
theorem zo1 {k : Nat} (hk : k ≤ 500000000) {l : List (qaI × Rat × Rat)} (hl : l.length ≤ 1000000) (h : ∀ q ∈ l, SzI k q.2) : Ev (fun K => q9P K (l.map cd)) (l.map fun q => ivP (nrmI q.2)) := by
  refine qaT ?_
  simp only [q9P, qe8]
  refine qaT ?_
  simp only [qe8]
  cases l with
  | nil => exact ev_f (by simp) (qa3 _)
  | cons t l =>
    have hm := h t (by simp)
    have ih := zxV hk hl h l.length 1 (by simp only [List.length_cons]; omega)
    have e : ((t :: l).take 1).map (fun q => ivP (nrmI q.2)) = [ivP (nrmI t.2)] := rfl
    rw [e] at ih
    rw [List.length_map, show wI6 ((0 : Int) + 1) = ((1 : Nat) : Int) by decide]
    exact ev_t (decide_eq_true (by simp only [List.length_cons]; omega)) (qb6 (x := cd t) rfl (qaP (qlM hm.1 hm.2 hk) ih))
def addI (x y : Rat × Rat) : Rat × Rat := (lsQ x.1 x.2 + lsQ y.1 y.2, gtQ x.1 x.2 + gtQ y.1 y.2)
def mulI (x y : Rat × Rat) : Rat × Rat := (lsQ (mlo x.1 x.2 y.1 y.2) (mhi x.1 x.2 y.1 y.2), gtQ (mlo x.1 x.2 y.1 y.2) (mhi x.1 x.2 y.1 y.2))
mutual
def P.encl (bx : Nat → Rat × Rat) : P → Rat × Rat
  | .k c => ((c : Rat), (c : Rat))
  | .p lv cs => P.encls bx (bx lv) cs
def P.encls (bx : Nat → Rat × Rat) (x : Rat × Rat) : List P → Rat × Rat
  | [] => (0, 0)
  | c :: cs => match cs with
    | [] => c.encl bx
    | _ :: _ => addI (mulI (P.encls bx x cs) x) (c.encl bx)
end
theorem zsU {i j : Nat} {x y : Rat × Rat} (hx : SzI i x) (hy : SzI j y) : SzI (i + j) (mulI x y) := by
  have a := q01 hx.1 hy.1
  have b := q01 hx.1 hy.2
  have c := q01 hx.2 hy.1
  have d := q01 hx.2 hy.2
  have l := q45 (q45 (q45 a b) c) d
  have g := q46 (q46 (q46 a b) c) d
  exact ⟨q45 l g, q46 l g⟩
theorem zyO {i j : Nat} {x y : Rat × Rat} (hx : SzI i x) (hy : SzI j y) : SzI (i + j + 1) (addI x y) :=
  ⟨zsT (q45 hx.1 hx.2) (q45 hy.1 hy.2), zsT (q46 hx.1 hx.2) (q46 hy.1 hy.2)⟩
theorem zwO {i j : Nat} {x y : Rat × Rat} (hx : SzI i x) (hy : SzI j y) (h : i + j ≤ 500000000) : Ev (fun K => quP K (ivP x) (ivP y)) (ivP (mulI x y)) := ziX hx.1 hx.2 hy.1 hy.2 h
theorem zwP {i j : Nat} {x y : Rat × Rat} (hx : SzI i x) (hy : SzI j y) (h : i + j ≤ 500000000) : Ev (fun K => quQ K (ivP x) (ivP y)) (ivP (addI x y)) := zi1 hx.1 hx.2 hy.1 hy.2 h
def fS (n k m : Nat) : Nat → Nat
  | 0 => n
  | L + 1 => m * (fS n k m L + k + 1)
theorem znW {n k m : Nat} (hm : 1 ≤ m) {i j : Nat} (h : i ≤ j) : fS n k m i ≤ fS n k m j := by
  induction h with
  | refl => exact Nat.le_refl _
  | step _ ih =>
    rw [fS]
    exact Nat.le_trans ih (Nat.le_trans (by omega) (Nat.le_mul_of_pos_left _ hm))
theorem zdH (bx : Nat → Rat × Rat) (x : Rat × Rat) (c : P) {cs : List P} (h : cs ≠ []) : P.encls bx x (c :: cs) = addI (mulI (P.encls bx x cs) x) (c.encl bx) := by
  cases cs with
  | nil => exact absurd rfl h
  | cons d cs => rw [P.encls]
theorem zjO (bx : Nat → Rat × Rat) (x : Rat × Rat) (c : P) : P.encls bx x [c] = c.encl bx := by rw [P.encls]
theorem znZ {bx : Nat → Rat × Rat} {x : Rat × Rat} {k f : Nat} (hx : SzI k x) : ∀ cs : List P, cs ≠ [] → (∀ c ∈ cs, SzI f (c.encl bx)) → SzI (cs.length * (f + k + 1)) (P.encls bx x cs)
  | [], h, _ => absurd rfl h
  | [c], _, hc => by rw [zjO]; exact q8T (by simp; omega) (hc c (by simp))
  | c :: d :: cs, _, hc => by
    rw [zdH _ _ _ (by simp)]
    have ih := znZ (bx := bx) hx (d :: cs) (by simp) fun c h => hc c (by simp only [List.mem_cons] at h ⊢; exact .inr h)
    have := zyO (zsU ih hx) (hc c (by simp))
    exact q8T (by simp only [List.length_cons, Nat.succ_mul]; omega) this
theorem zzC {n k m : Nat} (hn : 1 ≤ n) (hm : 1 ≤ m) {bx : Nat → Rat × Rat} (hb : ∀ i, SzI k (bx i)) : ∀ (L : Nat) (p : P), P.C L p → P.W n m p → SzI (fS n k m L) (p.encl bx) := by
  intro L
  induction L using Nat.strongRecOn with
  | _ L ih =>
    intro p hC hW
    cases p with
    | k c =>
      rw [P.W] at hW
      rw [P.encl]
      obtain ⟨n', rfl⟩ : ∃ n', n = n' + 1 := ⟨n - 1, by omega⟩
      exact q8T (znW hm (Nat.zero_le L)) ⟨zmH hW, zmH hW⟩
    | p lv cs =>
      rw [P.C] at hC
      rw [P.W] at hW
      rw [P.encl]
      have h1 := znZ (f := fS n k m (lv - 1)) (bx := bx) (hb lv) cs (by intro e; rw [e] at hC; simp at hC) fun c hc => ih (lv - 1) (by omega) c (quY hC.2.2.2.1 c hc) (qxL hW.2 c hc)
      refine q8T (znW hm hC.2.1) ?_
      obtain ⟨l', rfl⟩ : ∃ l', lv = l' + 1 := ⟨lv - 1, by omega⟩
      rw [fS]
      exact q8T (Nat.mul_le_mul_right _ hW.1) h1
theorem zt8 {p : qaI} {lv : Nat} (hp : p.Level = (lv : Int)) {cs : List P} (hpc : p.Coefs = P.raws cs) (h1 : 1 ≤ lv) (hlv : lv ≤ 1000000) (hl : cs.length ≤ 1000000) {bx : Nat → Rat × Rat} {box : List (Rat × Rat)} (hg : box[lv - 1]? = some (bx lv))
    {k f : Nat} (hx : SzI k (bx lv)) (hf : (cs.length + 1) * (f + k + 1) ≤ 400000000) (hc : ∀ c ∈ cs, SzI f (c.encl bx) ∧ Ev (fun K => qc6 K (.c0 c.enc (box.map ivP))) (ivP (c.encl bx))) (b4 : qaJ) :
    ∀ j : Nat, j < cs.length → Ev (fun K => qc6 K (.c1 p b4 (ivP (P.encls bx (bx lv) (cs.drop j))) (box.map ivP) ((j : Int) - 1))) (ivP (P.encls bx (bx lv) cs))
  | 0, hj => by
    refine qaT ?_
    simp only [qc6]
    exact ev_f (by simp) (qa3 _)
  | j + 1, hj => by
    obtain ⟨c, hx0⟩ : ∃ c, cs[j]? = some c := ⟨_, List.getElem?_eq_getElem (by omega)⟩
    have hdr : cs.drop j = c :: cs.drop (j + 1) := by
      have hlt : j < cs.length := by omega
      rw [List.drop_eq_getElem_cons hlt]
      congr 1
      rw [List.getElem?_eq_getElem hlt] at hx0
      exact Option.some.inj hx0
    have hne : cs.drop (j + 1) ≠ [] := by
      intro e
      have := congrArg List.length e
      rw [List.length_drop, List.length_nil] at this
      omega
    have ih := zt8 hp hpc h1 hlv hl hg hx hf hc b4 j (by omega)
    rw [hdr, zdH _ _ _ hne] at ih
    have e1 : (((j + 1 : Nat) : Int) - 1) = (j : Int) := by omega
    have w1 : wI6 ((lv : Int) - 1) = ((lv - 1 : Nat) : Int) := by rw [qdB (by omega)]; omega
    have w2 : wI6 ((j : Int) - 1) = (j : Int) - 1 := qdB (by omega)
    have hgi : gi (box.map ivP) ((lv - 1 : Nat) : Int) = some (ivP (bx lv)) := za3 (by rw [List.getElem?_map, hg]; rfl)
    have hsz := znZ (bx := bx) hx (cs.drop (j + 1)) hne fun c h => (hc c (List.mem_of_mem_drop h)).1
    have hlen : (cs.drop (j + 1)).length * (f + k + 1) ≤ cs.length * (f + k + 1) := Nat.mul_le_mul_right _ (by rw [List.length_drop]; omega)
    rw [Nat.add_mul, Nat.one_mul] at hf
    obtain ⟨c1, c2⟩ := hc c (List.mem_of_getElem? hx0)
    refine qaT ?_
    rw [e1]
    simp only [qc6, hp, hpc, w1, w2]
    exact ev_t (by simp) (qb6 hgi (qaP (zwO hsz hx (by omega)) (qb6 (qjR hx0) (qaP c2 (qaP (zwP (zsU hsz hx) c1 (by omega)) ih)))))
theorem zsC {n k m : Nat} (hn : 1 ≤ n) (hm : 1 ≤ m) {bx : Nat → Rat × Rat} {box : List (Rat × Rat)} (hb : ∀ i, SzI k (bx i)) (hbox : ∀ i, i < box.length → box[i]? = some (bx (i + 1))) (hbl : box.length ≤ 1000000) (hm2 : m ≤ 1000000) {M : Nat} (hM : (m + 1) * (fS n k m M + k + 1) ≤ 400000000) :
    ∀ (L : Nat) (p : P), P.C L p → P.W n m p → L ≤ box.length → L ≤ M → Ev (fun K => qc6 K (.c0 p.enc (box.map ivP))) (ivP (p.encl bx)) := by
  intro L
  induction L using Nat.strongRecOn with
  | _ L ih =>
    intro p hC hW hL hLM
    cases p with
    | k c =>
      rw [P.W] at hW
      have hfn : n ≤ fS n k m M := znW (n := n) (k := k) hm (Nat.zero_le M)
      have hfm : fS n k m M + k + 1 ≤ (m + 1) * (fS n k m M + k + 1) := Nat.le_mul_of_pos_left _ (by omega)
      have hz : Sz n (c : Rat) := by
        obtain ⟨n', rfl⟩ : ∃ n', n = n' + 1 := ⟨n - 1, by omega⟩
        exact zmH hW
      have sa : Sm (mkI c) := zd0 hz (by omega)
      refine qaT ?_
      simp only [qc6]
      exact ev_t rfl (qaP (q1E sa) (qaP (zc7 hz (by omega)) (qa3 _)))
    | p lv cs =>
      have hsz := fun c h1 h2 => zzC hn hm hb (lv - 1) c h1 h2
      rw [P.C] at hC
      rw [P.W] at hW
      have hall : ∀ c ∈ cs, SzI (fS n k m (lv - 1)) (c.encl bx) ∧ Ev (fun K => qc6 K (.c0 c.enc (box.map ivP))) (ivP (c.encl bx)) := fun c hc =>
        ⟨hsz c (quY hC.2.2.2.1 c hc) (qxL hW.2 c hc), ih (lv - 1) (by omega) c (quY hC.2.2.2.1 c hc) (qxL hW.2 c hc) (by omega) (by omega)⟩
      have hf0 := znW (n := n) (k := k) hm (show lv - 1 ≤ M by omega)
      have hf : (cs.length + 1) * (fS n k m (lv - 1) + k + 1) ≤ 400000000 := Nat.le_trans (Nat.mul_le_mul (by omega) (by omega)) hM
      have hg : box[lv - 1]? = some (bx lv) := by
        have := hbox (lv - 1) (by omega)
        rw [Nat.sub_add_cancel hC.1] at this
        exact this
      have hlen : 2 ≤ cs.length := hC.2.2.1
      obtain ⟨c, hx0⟩ : ∃ c, cs[cs.length - 1]? = some c := ⟨_, List.getElem?_eq_getElem (by omega)⟩
      have hdr : cs.drop (cs.length - 1) = [c] := by
        have hlt : cs.length - 1 < cs.length := by omega
        rw [List.drop_eq_getElem_cons hlt, List.drop_eq_nil_of_le (by omega)]
        congr 1
        rw [List.getElem?_eq_getElem hlt] at hx0
        exact Option.some.inj hx0
      have hloop := zt8 (p := (P.p lv cs).enc) rfl rfl hC.1 (by omega) (by omega) hg (hb lv) hf hall ⟨⟨⟨false, []⟩, []⟩, ⟨⟨false, []⟩, []⟩⟩ (cs.length - 1) (by omega)
      rw [hdr, zjO] at hloop
      have w1 : wI6 ((cs.length : Int) - 1) = ((cs.length - 1 : Nat) : Int) := by rw [qdB (by omega)]; omega
      have w2 : wI6 (((cs.length - 1 : Nat) : Int) - 1) = ((cs.length - 1 : Nat) : Int) - 1 := qdB (by omega)
      have hco : (P.p lv cs).enc.Coefs = P.raws cs := rfl
      have hle : (P.p lv cs).enc.Level = (lv : Int) := rfl
      refine qaT ?_
      simp only [qc6, hco, hle, qeY, w1, w2]
      refine ev_f (decide_eq_false (by omega)) (qb6 (qjR hx0) (qaP (hall c (List.mem_of_getElem? hx0)).2 ?_))
      exact hloop
def bxOf (l : List (qaI × Rat × Rat)) (i : Nat) : Rat × Rat := match l[i - 1]? with
  | some q => nrmI q.2
  | none => (0, 0)
theorem zfX {n m k : Nat} (hn : 1 ≤ n) (hm : 1 ≤ m) (hn2 : n ≤ 100000) (hm2 : m ≤ 1000000) (hk1 : 1 ≤ k) (hk : k ≤ 500000000) (hM : (m + 1) * (fS n k m 4 + k + 1) ≤ 400000000) {l : List (qaI × Rat × Rat)} (hl : l.length ≤ 1000000) (h : ∀ q ∈ l, SzI k q.2) {p : P} (hC : P.C 4 p) (hW : P.W n m p) :
    Ev (fun K => qvQ K p.enc (l.map cd)) (if l.length < p.lev then (⟨⟨⟨false, []⟩, []⟩, ⟨⟨false, []⟩, []⟩⟩, 1) else (ivP (p.encl (bxOf l)), 0)) := by
  have hNorm := qy0 hC hW (by omega) (by omega)
  refine qaT ?_
  simp only [qvQ, qk6]
  refine qaP hNorm ?_
  rw [zpH, List.length_map]
  by_cases hlv : l.length < p.lev
  · rw [if_pos hlv]
    exact ev_t (decide_eq_true (by omega)) (qa3 _)
  · rw [if_neg hlv]
    refine ev_f (decide_eq_false (by omega)) (qaP (zo1 hk hl h) ?_)
    have e : (l.map fun q => ivP (nrmI q.2)) = (l.map fun q => nrmI q.2).map ivP := by rw [List.map_map]; rfl
    have hCl : P.C p.lev p := by
      cases p with
      | k c => rw [P.C]; trivial
      | p lv cs => rw [P.C] at hC ⊢; exact ⟨hC.1, Nat.le_refl _, hC.2.2⟩
    have hb : ∀ i, SzI k (bxOf l i) := fun i => by
      unfold bxOf
      split
      · rename_i q hq; exact zyN (h q (List.mem_of_getElem? hq))
      · exact ⟨qv3 hk1 zp0, qv3 hk1 zp0⟩
    have hbox : ∀ i, i < (l.map fun q => nrmI q.2).length → (l.map fun q => nrmI q.2)[i]? = some (bxOf l (i + 1)) := fun i hi => by
      rw [List.length_map] at hi
      rw [List.getElem?_map]
      unfold bxOf
      rw [Nat.add_sub_cancel, List.getElem?_eq_getElem hi]
      rfl
    have hbl : (l.map fun q => nrmI q.2).length ≤ 1000000 := by rw [List.length_map]; exact hl
    have hpl : p.lev ≤ (l.map fun q => nrmI q.2).length := by rw [List.length_map]; omega
    have := zsC (n := n) (k := k) (m := m) (M := 4) hn hm hb hbox hbl hm2 hM p.lev p hCl hW hpl (zuU hC)
    rw [← e] at this
    exact qaP this (qa3 _)
theorem zy5 (a c : Rat) : mulI (a, a) (c, c) = (a * c, a * c) := by
  unfold mulI mlo mhi
  simp only [q4Y, q4Z]
theorem zzJ (a c : Rat) : addI (a, a) (c, c) = (a + c, a + c) := by
  unfold addI
  simp only [q4Y, q4Z]
theorem zxQ {bx : Nat → Rat × Rat} {ρ : Nat → Rat} {x : Rat} : ∀ cs : List P, (∀ c ∈ cs, c.encl bx = (c.ev ρ, c.ev ρ)) → P.encls bx (x, x) cs = (P.evs ρ x cs, P.evs ρ x cs)
  | [], _ => by rw [P.encls, P.evs]
  | [c], h => by
    rw [zjO, h c (by simp), P.evs, P.evs]
    have : c.ev ρ + x * 0 = c.ev ρ := by grind
    rw [this]
  | c :: d :: cs, h => by
    rw [zdH _ _ _ (by simp), zxQ (d :: cs) (fun c hc => h c (by simp only [List.mem_cons] at hc ⊢; exact .inr hc)), h c (by simp), zy5, zzJ]
    have e2 : P.evs ρ x (c :: d :: cs) = c.ev ρ + x * P.evs ρ x (d :: cs) := by rw [P.evs]
    have : P.evs ρ x (d :: cs) * x + c.ev ρ = c.ev ρ + x * P.evs ρ x (d :: cs) := by grind
    rw [this, e2]
theorem ev_pt {bx : Nat → Rat × Rat} {ρ : Nat → Rat} : ∀ (L : Nat) (p : P), P.C L p → (∀ i, 1 ≤ i → i ≤ L → bx i = (ρ i, ρ i)) → p.encl bx = (p.ev ρ, p.ev ρ) := by
  intro L
  induction L using Nat.strongRecOn with
  | _ L ih =>
    intro p hC hb
    cases p with
    | k c => rw [P.encl, P.ev]
    | p lv cs =>
      rw [P.C] at hC
      rw [P.encl, P.ev, hb lv hC.1 hC.2.1]
      exact zxQ cs fun c hc => ih (lv - 1) (by omega) c (quY hC.2.2.2.1 c hc) fun i h1 h2 => hb i h1 (by omega)
open Go.Proofs.Try (prog)
inductive qjV where
 | c0 
def qgC : Nat → qjV → Option Bool
 | 0, _ => none
 | K + 1, .c0  =>
  (qjI K (1 : Int)).bind fun x1 =>
  (qjI K (2 : Int)).bind fun x3 =>
  (q9N K ([x1, x3] : List qaK)).bind fun x5 =>
  some (decide ((x5.length : Int) = (2 : Int)))
def qiF (K : Nat)  : Option Bool := qgC K .c0
noncomputable def qzY : Code := qcK prog 12
noncomputable def q0W : qjV → List Fr
 | .c0  => [.code qzY]
def q2I : qjV → St
 | .c0  => St.init []
def quS (cx : Cx) (c : qjV) (r : Bool) : Prop := Wk prog cx (qd0 prog 12 [[0]] (TV.c (T.bool r))) (q0W c) .normal (q2I c)
abbrev quT (K : Nat) : Prop := ∀ c r, qgC K c = some r → ∀ cx : Cx, cx.n = 7 → quS cx c r
theorem q2J {K} (_ : quT K) {cx} (hn : cx.n = 7)  {r} (h : qgC (K + 1) .c0 = some r) : quS cx .c0 r := by
 rw [qgC] at h
 obtain ⟨x1, h2, h⟩ := qaV h
 obtain ⟨x3, h4, h⟩ := qaV h
 obtain ⟨x5, h6, h⟩ := qaV h
 have h := oinj h; subst h
 exact wkR [rg1, rgG [opI (.call [[0]] [(TV.c (T.int .i64 (1 : Int)))] (TV.agg (qaC x1))), opI (.call [[0]] [(TV.c (T.int .i64 (2 : Int)))] (TV.agg (qaC x3))), opI (.lit (([x1, x3] : List qaK).map qaC)), .snap 3 (max 0 (0 + 2)) (([x1, x3] : List qaK).map qaC), opI (.call [[3]] [(TV.c (T.sl 3 (([x1, x3] : List qaK).map qaC)))] (tl 10 x5 qa6)), opI (.ln (x5.length : Int)), oo, oo]] hn (aC (qeS h2) <| aC (qeS h4) <| aC (by kernel_rfl : [(T.bool x1.Num.Neg), (T.sl 1 (x1.Num.Abs.map qaE)), (T.sl 1 (x1.Den.map qaE)), (T.bool x3.Num.Neg), (T.sl 1 (x3.Num.Abs.map qaE)), (T.sl 1 (x3.Den.map qaE))] = (([x1, x3] : List qaK).map qaC).flatten) <| aC (qfA _ _ _ (by simp) : ((([x1, x3] : List qaK).map qaC).drop 0).take 2 = ([x1, x3] : List qaK).map qaC) <| aC (rfl : (max 0 (0 + 2)) = (max 0 (0 + 2))) <| aC (qt6 h6) <| aC (qdF x5 qa6) <| aN)
theorem qtG : ∀ K : Nat, quT K
 | 0, c, r, h => by rw [qgC] at h; cases h
 | K + 1, .c0, r, h => fun cx hn => q2J (qtG K) hn h
theorem qeZ {K : Nat}  {r : Bool} (h : qiF K  = some r) : qc0 prog 12 [] (TV.c (T.bool r)) :=
 qbG [[0]] (by kernel_rfl) (by simp) fun cx hn => qtG K .c0 r h cx hn
open Go.Proofs.Try (prog)
inductive qgW where
 | c0 (p : (List qbD)) (x : q00)
def qe6 : Nat → qgW → Option Bool
 | 0, _ => none
 | K + 1, .c0 p x =>
  (qiF K ).bind fun x1 =>
  bif (!x1) then
   (qiF K ).bind fun x4 =>
   some x4
  else
   (qmS K p (6 : Int) (4 : Int)).bind fun x4 =>
   bif (!x4) then
    (qiF K ).bind fun x7 =>
    some x7
   else
    (qgT K x.e0).bind fun x7 =>
    (qgT K x.e1).bind fun x9 =>
    (qgT K x.e2).bind fun x11 =>
    (qgT K x.e3).bind fun x13 =>
    (qlR K p).bind fun x15 =>
    (q9N K ([x7, x9, x11, x13] : List qaK)).bind fun x17 =>
    (qvQ K x15 x17).bind fun x19 =>
    (qlR K p).bind fun x21 =>
    (qxT K x21 ([x7, x9, x11, x13] : List qaK)).bind fun x23 =>
    bif (decide (x19.2 = (0 : Int))) then
     (qo0 K x19.1.Lo x23).bind fun x26 =>
     bif (decide (x26 = (0 : Int))) then
      (qo0 K x19.1.Hi x23).bind fun x29 =>
      some (decide (x29 = (0 : Int)))
     else
      some false
    else
     some false
def qmT (K : Nat) (p : (List qbD)) (x : q00) : Option Bool := qe6 K (.c0 p x)
noncomputable def qvF : Code := qcK prog 8
noncomputable def qv0 : qgW → List Fr
 | .c0 .. => [.code qvF]
def qxB : qgW → St
 | .c0 p x => St.init [(tl 5 p qaO), (TV.agg (qxI x))]
def qp6 (cx : Cx) (c : qgW) (r : Bool) : Prop := Wk prog cx (qd0 prog 8 [[0]] (TV.c (T.bool r))) (qv0 c) .normal (qxB c)
abbrev qp7 (K : Nat) : Prop := ∀ c r, qe6 K c = some r → ∀ cx : Cx, cx.n = 58 → qp6 cx c r
theorem qxC {K} (_ : qp7 K) {cx} (hn : cx.n = 58) {p x} {r} (h : qe6 (K + 1) (.c0 p x) = some r) : qp6 cx (.c0 p x) r := by
 rw [qe6] at h
 obtain ⟨x1, h2, h⟩ := qaV h
 rcases qaY h with ⟨h3, h⟩ | ⟨h3, h⟩
 ·obtain ⟨x4, h5, h⟩ := qaV h
  have h := oinj h; subst h
  exact wkR [rg2, rgG [opI (.call [] [] (TV.c (T.bool x1))), oo, oo, .sb 11 true, oo, oo, oo, oo], bTr, rgG [opI (.call [] [] (TV.c (T.bool x4))), oo]] hn (aC (qeZ h2) <| aC h3 <| aC rt <| aC (qeZ h5) <| aN)
 ·obtain ⟨x4, h5, h⟩ := qaV h
  rcases qaY h with ⟨h6, h⟩ | ⟨h6, h⟩
  ·obtain ⟨x7, h8, h⟩ := qaV h
   have h := oinj h; subst h
   exact wkR [rg2, rgG [opI (.call [] [] (TV.c (T.bool x1))), oo, oo, .sb 11 false, oo, opI (.call [[5], [0], [0]] [(tl 5 p qaO), (TV.c (T.int .i64 (6 : Int))), (TV.c (T.int .u8 (4 : Int)))] (TV.c (T.bool x4))), oo, oo], bTr, rgG [opI (.call [] [] (TV.c (T.bool x7))), oo]] hn (aC (qeZ h2) <| aC h3 <| aC (qjU h5) <| aC h6 <| aC (qeZ h8) <| aN)
  ·obtain ⟨x7, h8, h⟩ := qaV h
   obtain ⟨x9, h10, h⟩ := qaV h
   obtain ⟨x11, h12, h⟩ := qaV h
   obtain ⟨x13, h14, h⟩ := qaV h
   obtain ⟨x15, h16, h⟩ := qaV h
   obtain ⟨x17, h18, h⟩ := qaV h
   obtain ⟨x19, h20, h⟩ := qaV h
   obtain ⟨x21, h22, h⟩ := qaV h
   obtain ⟨x23, h24, h⟩ := qaV h
   rcases qaY h with ⟨h25, h⟩ | ⟨h25, h⟩
   ·obtain ⟨x26, h27, h⟩ := qaV h
    rcases qaY h with ⟨h28, h⟩ | ⟨h28, h⟩
    ·obtain ⟨x29, h30, h⟩ := qaV h
     have h := oinj h; subst h
     exact wkR [rg2, rgG [opI (.call [] [] (TV.c (T.bool x1))), oo, oo, .sb 11 false, oo, opI (.call [[5], [0], [0]] [(tl 5 p qaO), (TV.c (T.int .i64 (6 : Int))), (TV.c (T.int .u8 (4 : Int)))] (TV.c (T.bool x4))), oo, oo], bFa, .draw [.p, .p, (.call [[0,0]] [(TV.agg (qkW x.e0))] (TV.agg (qaC x7))), .p, .p, (.call [[0,0]] [(TV.agg (qkW x.e1))] (TV.agg (qaC x9))), .p, .p, (.call [[0,0]] [(TV.agg (qkW x.e2))] (TV.agg (qaC x11))), .p, .p] [opI (.call [[0,0]] [(TV.agg (qkW x.e3))] (TV.agg (qaC x13))), opI (.lit (([x7, x9, x11, x13] : List qaK).map qaC)), .op .p], rgG [oo, opI (.call [[5]] [(tl 5 p qaO)] (TV.agg (qaB x15))), oo, .snap 33 (max 0 (0 + 4)) (([x7, x9, x11, x13] : List qaK).map qaC), opI (.call [[3]] [(TV.c (T.sl 3 (([x7, x9, x11, x13] : List qaK).map qaC)))] (tl 10 x17 qa6)), opI (.call [[0,0,1,4], [10]] [(TV.agg (qaB x15)), (tl 10 x17 qa6)] (TV.tup [(true, qaM x19.1), (false, [(T.int .i64 x19.2)])])), oo, oo, oo, oo, oo, oo], rgG [oo, opI (.call [[5]] [(tl 5 p qaO)] (TV.agg (qaB x21))), oo, .snap 40 (max (max 0 (0 + 4)) (0 + 4)) (([x7, x9, x11, x13] : List qaK).map qaC), opI (.call [[0,0,1,4], [3]] [(TV.agg (qaB x21)), (TV.c (T.sl 3 (([x7, x9, x11, x13] : List qaK).map qaC)))] (TV.agg (qaC x23))), oo, oo], rgG [oo, oo, oo, .sb 44 true, oo, oo, oo, opI (.call [[0,1,1], [0,1,1]] [(TV.agg (qaC x19.1.Lo)), (TV.agg (qaC x23))] (ti .i64 x26)), oo, oo, oo, .sb 51 true, oo, oo, oo, opI (.call [[0,1,1], [0,1,1]] [(TV.agg (qaC x19.1.Hi)), (TV.agg (qaC x23))] (ti .i64 x29)), oo, oo, oo]] hn (aC (qeZ h2) <| aC h3 <| aC (qjU h5) <| aC h6 <| aC (qdD h8) <| aC (qdD h10) <| aC (qdD h12) <| aC (qdD h14) <| aC (by kernel_rfl : [(T.bool x7.Num.Neg), (T.sl 1 (x7.Num.Abs.map qaE)), (T.sl 1 (x7.Den.map qaE)), (T.bool x9.Num.Neg), (T.sl 1 (x9.Num.Abs.map qaE)), (T.sl 1 (x9.Den.map qaE)), (T.bool x11.Num.Neg), (T.sl 1 (x11.Num.Abs.map qaE)), (T.sl 1 (x11.Den.map qaE)), (T.bool x13.Num.Neg), (T.sl 1 (x13.Num.Abs.map qaE)), (T.sl 1 (x13.Den.map qaE))] = (([x7, x9, x11, x13] : List qaK).map qaC).flatten) <| aC (qfP h16) <| aC (qfA _ _ _ (by simp) : ((([x7, x9, x11, x13] : List qaK).map qaC).drop 0).take 4 = ([x7, x9, x11, x13] : List qaK).map qaC) <| aC (rfl : (max 0 (0 + 4)) = (max 0 (0 + 4))) <| aC (qt6 h18) <| aC (qrM h20) <| aC (qfP h22) <| aC (qfA _ _ _ (by simp) : ((([x7, x9, x11, x13] : List qaK).map qaC).drop 0).take 4 = ([x7, x9, x11, x13] : List qaK).map qaC) <| aC (rfl : (max (max 0 (0 + 4)) (0 + 4)) = (max (max 0 (0 + 4)) (0 + 4))) <| aC (qsF h24) <| aC h25 <| aC (qg9 h27) <| aC h28 <| aC (qg9 h30) <| aN)
    ·have h := oinj h; subst h
     exact wkR [rg2, rgG [opI (.call [] [] (TV.c (T.bool x1))), oo, oo, .sb 11 false, oo, opI (.call [[5], [0], [0]] [(tl 5 p qaO), (TV.c (T.int .i64 (6 : Int))), (TV.c (T.int .u8 (4 : Int)))] (TV.c (T.bool x4))), oo, oo], bFa, .draw [.p, .p, (.call [[0,0]] [(TV.agg (qkW x.e0))] (TV.agg (qaC x7))), .p, .p, (.call [[0,0]] [(TV.agg (qkW x.e1))] (TV.agg (qaC x9))), .p, .p, (.call [[0,0]] [(TV.agg (qkW x.e2))] (TV.agg (qaC x11))), .p, .p] [opI (.call [[0,0]] [(TV.agg (qkW x.e3))] (TV.agg (qaC x13))), opI (.lit (([x7, x9, x11, x13] : List qaK).map qaC)), .op .p], rgG [oo, opI (.call [[5]] [(tl 5 p qaO)] (TV.agg (qaB x15))), oo, .snap 33 (max 0 (0 + 4)) (([x7, x9, x11, x13] : List qaK).map qaC), opI (.call [[3]] [(TV.c (T.sl 3 (([x7, x9, x11, x13] : List qaK).map qaC)))] (tl 10 x17 qa6)), opI (.call [[0,0,1,4], [10]] [(TV.agg (qaB x15)), (tl 10 x17 qa6)] (TV.tup [(true, qaM x19.1), (false, [(T.int .i64 x19.2)])])), oo, oo, oo, oo, oo, oo], rgG [oo, opI (.call [[5]] [(tl 5 p qaO)] (TV.agg (qaB x21))), oo, .snap 40 (max (max 0 (0 + 4)) (0 + 4)) (([x7, x9, x11, x13] : List qaK).map qaC), opI (.call [[0,0,1,4], [3]] [(TV.agg (qaB x21)), (TV.c (T.sl 3 (([x7, x9, x11, x13] : List qaK).map qaC)))] (TV.agg (qaC x23))), oo, oo], rgG [oo, oo, oo, .sb 44 true, oo, oo, oo, opI (.call [[0,1,1], [0,1,1]] [(TV.agg (qaC x19.1.Lo)), (TV.agg (qaC x23))] (ti .i64 x26)), oo, oo, oo, .sb 51 false, oo, oo, oo, oo, oo, oo, oo]] hn (aC (qeZ h2) <| aC h3 <| aC (qjU h5) <| aC h6 <| aC (qdD h8) <| aC (qdD h10) <| aC (qdD h12) <| aC (qdD h14) <| aC (by kernel_rfl : [(T.bool x7.Num.Neg), (T.sl 1 (x7.Num.Abs.map qaE)), (T.sl 1 (x7.Den.map qaE)), (T.bool x9.Num.Neg), (T.sl 1 (x9.Num.Abs.map qaE)), (T.sl 1 (x9.Den.map qaE)), (T.bool x11.Num.Neg), (T.sl 1 (x11.Num.Abs.map qaE)), (T.sl 1 (x11.Den.map qaE)), (T.bool x13.Num.Neg), (T.sl 1 (x13.Num.Abs.map qaE)), (T.sl 1 (x13.Den.map qaE))] = (([x7, x9, x11, x13] : List qaK).map qaC).flatten) <| aC (qfP h16) <| aC (qfA _ _ _ (by simp) : ((([x7, x9, x11, x13] : List qaK).map qaC).drop 0).take 4 = ([x7, x9, x11, x13] : List qaK).map qaC) <| aC (rfl : (max 0 (0 + 4)) = (max 0 (0 + 4))) <| aC (qt6 h18) <| aC (qrM h20) <| aC (qfP h22) <| aC (qfA _ _ _ (by simp) : ((([x7, x9, x11, x13] : List qaK).map qaC).drop 0).take 4 = ([x7, x9, x11, x13] : List qaK).map qaC) <| aC (rfl : (max (max 0 (0 + 4)) (0 + 4)) = (max (max 0 (0 + 4)) (0 + 4))) <| aC (qsF h24) <| aC h25 <| aC (qg9 h27) <| aC h28 <| aN)
   ·have h := oinj h; subst h
    exact wkR [rg2, rgG [opI (.call [] [] (TV.c (T.bool x1))), oo, oo, .sb 11 false, oo, opI (.call [[5], [0], [0]] [(tl 5 p qaO), (TV.c (T.int .i64 (6 : Int))), (TV.c (T.int .u8 (4 : Int)))] (TV.c (T.bool x4))), oo, oo], bFa, .draw [.p, .p, (.call [[0,0]] [(TV.agg (qkW x.e0))] (TV.agg (qaC x7))), .p, .p, (.call [[0,0]] [(TV.agg (qkW x.e1))] (TV.agg (qaC x9))), .p, .p, (.call [[0,0]] [(TV.agg (qkW x.e2))] (TV.agg (qaC x11))), .p, .p] [opI (.call [[0,0]] [(TV.agg (qkW x.e3))] (TV.agg (qaC x13))), opI (.lit (([x7, x9, x11, x13] : List qaK).map qaC)), .op .p], rgG [oo, opI (.call [[5]] [(tl 5 p qaO)] (TV.agg (qaB x15))), oo, .snap 33 (max 0 (0 + 4)) (([x7, x9, x11, x13] : List qaK).map qaC), opI (.call [[3]] [(TV.c (T.sl 3 (([x7, x9, x11, x13] : List qaK).map qaC)))] (tl 10 x17 qa6)), opI (.call [[0,0,1,4], [10]] [(TV.agg (qaB x15)), (tl 10 x17 qa6)] (TV.tup [(true, qaM x19.1), (false, [(T.int .i64 x19.2)])])), oo, oo, oo, oo, oo, oo], rgG [oo, opI (.call [[5]] [(tl 5 p qaO)] (TV.agg (qaB x21))), oo, .snap 40 (max (max 0 (0 + 4)) (0 + 4)) (([x7, x9, x11, x13] : List qaK).map qaC), opI (.call [[0,0,1,4], [3]] [(TV.agg (qaB x21)), (TV.c (T.sl 3 (([x7, x9, x11, x13] : List qaK).map qaC)))] (TV.agg (qaC x23))), oo, oo], rgG [oo, oo, oo, .sb 44 false, oo, oo, oo, oo, oo, oo, oo, oo, oo, oo, oo, oo, oo, oo]] hn (aC (qeZ h2) <| aC h3 <| aC (qjU h5) <| aC h6 <| aC (qdD h8) <| aC (qdD h10) <| aC (qdD h12) <| aC (qdD h14) <| aC (by kernel_rfl : [(T.bool x7.Num.Neg), (T.sl 1 (x7.Num.Abs.map qaE)), (T.sl 1 (x7.Den.map qaE)), (T.bool x9.Num.Neg), (T.sl 1 (x9.Num.Abs.map qaE)), (T.sl 1 (x9.Den.map qaE)), (T.bool x11.Num.Neg), (T.sl 1 (x11.Num.Abs.map qaE)), (T.sl 1 (x11.Den.map qaE)), (T.bool x13.Num.Neg), (T.sl 1 (x13.Num.Abs.map qaE)), (T.sl 1 (x13.Den.map qaE))] = (([x7, x9, x11, x13] : List qaK).map qaC).flatten) <| aC (qfP h16) <| aC (qfA _ _ _ (by simp) : ((([x7, x9, x11, x13] : List qaK).map qaC).drop 0).take 4 = ([x7, x9, x11, x13] : List qaK).map qaC) <| aC (rfl : (max 0 (0 + 4)) = (max 0 (0 + 4))) <| aC (qt6 h18) <| aC (qrM h20) <| aC (qfP h22) <| aC (qfA _ _ _ (by simp) : ((([x7, x9, x11, x13] : List qaK).map qaC).drop 0).take 4 = ([x7, x9, x11, x13] : List qaK).map qaC) <| aC (rfl : (max (max 0 (0 + 4)) (0 + 4)) = (max (max 0 (0 + 4)) (0 + 4))) <| aC (qsF h24) <| aC h25 <| aN)
theorem qoS : ∀ K : Nat, qp7 K
 | 0, c, r, h => by rw [qe6] at h; cases h
 | K + 1, .c0 .., r, h => fun cx hn => qxC (qoS K) hn h
theorem quU {K : Nat} {p : (List qbD)} {x : q00} {r : Bool} (h : qmT K p x = some r) : qc0 prog 8 [(tl 5 p qaO), (TV.agg (qxI x))] (TV.c (T.bool r)) :=
 qbG [[0]] (by kernel_rfl) (by simp) fun cx hn => qoS K (.c0 p x) r h cx hn
theorem zrV : Ev (fun K => qiF K) true := by
  refine qaT ?_
  simp only [qiF, qgC]
  refine qaP (qqI (z := 1) (by omega)) (qaP (qqI (z := 2) (by omega)) ?_)
  have h := zh9 (k := 1) (by omega) (l := [((1 : Int) : Rat), ((2 : Int) : Rat)]) (by simp) (by
    intro q hq
    simp only [List.mem_cons, List.not_mem_nil, or_false] at hq
    rcases hq with rfl | rfl
    · exact zmH (k := 0) (by decide)
    · exact zmH (k := 0) (by decide))
  exact qaP h (qeQ (qa3 _) (by simp))
def A2Ok (q : zbK) : Prop := (-128 ≤ q.e0 ∧ q.e0 < 128) ∧ (-128 ≤ q.e1 ∧ q.e1 < 128)
theorem zn4 {p : List qbD} {x : q00} (hp : ∀ m ∈ p, zbI m) (h0 : A2Ok x.e0) (h1 : A2Ok x.e1) (h2 : A2Ok x.e2) (h3 : A2Ok x.e3) : Ev (fun K => qmT K p x) true := by
  refine qaT ?_
  simp only [qmT, qe6]
  refine qaP zrV (ev_f rfl ?_)
  obtain ⟨b, hb, hf⟩ := few_ev p (n := 6) (most := 4) (by omega)
  refine qaP hb ?_
  cases b with
  | false => exact ev_t rfl (qaP zrV (qa3 _))
  | true =>
    have hf := hf rfl
    refine ev_f rfl ?_
    obtain ⟨x1, e1, s1⟩ := ql5 h0.1 h0.2
    obtain ⟨x2, e2, s2⟩ := ql5 h1.1 h1.2
    obtain ⟨x3, e3, s3⟩ := ql5 h2.1 h2.2
    obtain ⟨x4, e4, s4⟩ := ql5 h3.1 h3.2
    refine qaP e1 (qaP e2 (qaP e3 (qaP e4 ?_)))
    obtain ⟨q, hC, hW, hq, _⟩ := zzK hp hf
    refine qaP hq ?_
    have hall : ∀ q ∈ [x1, x2, x3, x4], Sz 1 q := by
      intro q hq
      simp only [List.mem_cons, List.not_mem_nil, or_false] at hq
      rcases hq with rfl | rfl | rfl | rfl <;> assumption
    have ho := zh9 (k := 1) (by omega) (l := [x1, x2, x3, x4]) (by simp) hall
    refine qaP ho ?_
    have e : ([x1, x2, x3, x4].map fun q => cd (ratC q)) = ([x1, x2, x3, x4].map ratC).map cd := by rw [List.map_map]; rfl
    rw [e]
    let ρ : Nat → Rat := fun i => if i = 1 then x1 else if i = 2 then x2 else if i = 3 then x3 else x4
    have henc := zfX (n := 7) (m := 5) (k := 1) (l := [x1, x2, x3, x4].map ratC) (by omega) (by omega) (by omega) (by omega) (by omega) (by omega) (by decide) (by simp) (fun q hq => by
      obtain ⟨y, hy, rfl⟩ := List.mem_map.1 hq
      exact ⟨hall y hy, hall y hy⟩) hC hW
    have hlev := zuU hC
    rw [if_neg (by simp only [List.length_map, List.length_cons, List.length_nil]; omega)] at henc
    have hpt : q.encl (bxOf ([x1, x2, x3, x4].map ratC)) = (q.ev ρ, q.ev ρ) := by
      refine ev_pt 4 q hC fun i i1 i4 => ?_
      rcases (by omega : i = 1 ∨ i = 2 ∨ i = 3 ∨ i = 4) with rfl | rfl | rfl | rfl
      · show (lsQ x1 x1, gtQ x1 x1) = (x1, x1); rw [q4Y, q4Z]
      · show (lsQ x2 x2, gtQ x2 x2) = (x2, x2); rw [q4Y, q4Z]
      · show (lsQ x3 x3, gtQ x3 x3) = (x3, x3); rw [q4Y, q4Z]
      · show (lsQ x4 x4, gtQ x4 x4) = (x4, x4); rw [q4Y, q4Z]
    rw [hpt] at henc
    obtain ⟨sv, hv⟩ := zhV (k := 1) (n := 7) (by omega) s1 s2 s3 s4 (by omega) (ρ := ρ) rfl rfl rfl rfl hC hW
    have hcmp := qwD sv sv (by omega)
    rw [zuE] at hcmp
    exact qaP henc (qaP hq (qaP hv (ev_t rfl (qaP hcmp (ev_t rfl (qaP hcmp (qa3 _)))))))
end Go.Am.X
namespace Go.Am
def zq0 (P : Program) : Nat → List Field → Bool
  | _, [] => true
  | off, f :: fs => f.offset == off && zq0 P (off + P.cellsOf f.type) fs
def zm0 (P : Program) : Nat → List Field → Nat
  | off, [] => off
  | off, f :: fs => zm0 P (off + P.cellsOf f.type) fs
def qxZ (P : Program) : Nat → TypeId → Bool
  | 0, _ => false
  | n + 1, t => match P.underlying t with
    | some .bool => true
    | some (.int _) => true
    | some (.slice e) => decide (0 < P.cellsOf e) && qxZ P n e
    | some (.struct fs) => zq0 P 0 fs.toList && (zm0 P 0 fs.toList == P.cellsOf t) && fs.toList.all fun f => qxZ P n f.type
    | some (.array m e) => (m * P.cellsOf e == P.cellsOf t) && qxZ P n e
    | _ => false
def WtL (W : TypeId → List T → Prop) : List TypeId → List T → Prop
  | [], ts => ts = []
  | t :: r, ts => ∃ a b, ts = a ++ b ∧ W t a ∧ WtL W r b
def Wt (P : Program) : Nat → TypeId → List T → Prop
  | 0, _, _ => False
  | n + 1, t, ts => match P.underlying t with
    | some .bool => ∃ b, ts = [.bool b]
    | some (.int k) => ∃ m, ts = [.int k m] ∧ (Lit.int k m).wf = true
    | some (.slice e) => ∃ es, ts = [.sl (P.cellsOf e) es] ∧ es.length ≤ maxLen ∧ ∀ x ∈ es, Wt P n e x
    | some (.struct fs) => WtL (Wt P n) (fs.toList.map (·.type)) ts
    | some (.array m e) => WtL (Wt P n) (List.replicate m e) ts
    | _ => False
def RepL (w : World) (I : Nat → Nat → Prop) : List Value → List T → Prop
  | [], [] => True
  | v :: vs, t :: ts => Rep w I v t ∧ RepL w I vs ts
  | _, _ => False
theorem RepL.append {w : World} {I : Nat → Nat → Prop} : ∀ {a b : List Value} {x y : List T}, RepL w I a x → RepL w I b y → RepL w I (a ++ b) (x ++ y)
  | [], _, [], _, _, h => h
  | _ :: _, _, _ :: _, _, h, h' => ⟨h.1, h.2.append h'⟩
  | [], _, _ :: _, _, h, _ => h.elim
  | _ :: _, _, [], _, h, _ => h.elim
theorem RepL.length {w : World} {I : Nat → Nat → Prop} : ∀ {a : List Value} {x : List T}, RepL w I a x → a.length = x.length
  | [], [], _ => rfl
  | _ :: _, _ :: _, h => by simp [h.2.length]
  | [], _ :: _, h => h.elim
  | _ :: _, [], h => h.elim
theorem RepL.get {w : World} {I : Nat → Nat → Prop} : ∀ {a : List Value} {x : List T} {k : Nat} {v : Value} {t : T}, RepL w I a x → a[k]? = some v → x[k]? = some t → Rep w I v t
  | _ :: _, _ :: _, 0, _, _, h, h1, h2 => by simp at h1 h2; subst h1; subst h2; exact h.1
  | _ :: _, _ :: _, k + 1, _, _, h, h1, h2 => h.2.get (k := k) (by simpa using h1) (by simpa using h2)
  | [], [], _, _, _, _, h1, _ => by simp at h1
  | [], _ :: _, _, _, _, h, _, _ => h.elim
  | _ :: _, [], _, _, _, h, _, _ => h.elim
theorem RepL.crs {w : World} {I : Nat → Nat → Prop} {L : Loc} {H : List (Nat × Blk)} : ∀ {a : List Value} {x : List T}, RepL w I a x → CRs w L H I a (x.map .t)
  | [], [], _ => trivial
  | _ :: _, _ :: _, h => ⟨⟨h.1.one, h.1⟩, h.2.crs⟩
  | [], _ :: _, h => h.elim
  | _ :: _, [], h => h.elim
section
variable {H : Type} {enc : TypeId × Value → H} {P : Program} {w : World} {base : Nat} {held : Bool}
theorem tile {n : Nat} {I : Nat → Nat → Prop} (cs : List Value) : ∀ (fs : List Field) (off : Nat), zq0 P off fs = true → cs.length = zm0 P off fs →
    (∀ f ∈ fs, ∃ ts, Wt P n f.type ts ∧ RepL w I ((cs.drop f.offset).take (P.cellsOf f.type)) ts) → ∃ ts, WtL (Wt P n) (fs.map (·.type)) ts ∧ RepL w I (cs.drop off) ts
  | [], off, _, hl, _ => ⟨[], rfl, by rw [List.drop_of_length_le (by simp only [zm0] at hl; omega)]; trivial⟩
  | f :: fs, off, ht, hl, h => by
    simp only [zq0, Bool.and_eq_true, beq_iff_eq] at ht
    obtain ⟨a, h1, h2⟩ := h f (List.mem_cons_self ..)
    obtain ⟨b, h3, h4⟩ := tile cs fs (off + P.cellsOf f.type) ht.2 hl (fun g hg => h g (List.mem_cons_of_mem _ hg))
    refine ⟨a ++ b, ⟨a, b, rfl, h1, h3⟩, ?_⟩
    have e : cs.drop off = (cs.drop off).take (P.cellsOf f.type) ++ cs.drop (off + P.cellsOf f.type) := by rw [← List.drop_drop, List.take_append_drop]
    rw [e]
    rw [ht.1] at h2
    exact h2.append h4
theorem tileA {n c : Nat} {e : TypeId} {I : Nat → Nat → Prop} (cs : List Value) : ∀ (m i : Nat), cs.length = (i + m) * c →
    (∀ j, j < i + m → ∃ ts, Wt P n e ts ∧ RepL w I ((cs.drop (j * c)).take c) ts) → ∃ ts, WtL (Wt P n) (List.replicate m e) ts ∧ RepL w I (cs.drop (i * c)) ts
  | 0, i, hl, _ => ⟨[], rfl, by rw [List.drop_of_length_le (by rw [hl]; simp)]; trivial⟩
  | m + 1, i, hl, h => by
    obtain ⟨a, h1, h2⟩ := h i (by omega)
    obtain ⟨b, h3, h4⟩ := tileA cs m (i + 1) (by rw [hl]; congr 1; omega) (fun j hj => h j (by omega))
    refine ⟨a ++ b, ⟨a, b, rfl, h1, h3⟩, ?_⟩
    have e : cs.drop (i * c) = (cs.drop (i * c)).take c ++ cs.drop ((i + 1) * c) := by rw [Nat.add_mul, Nat.one_mul, ← List.drop_drop, List.take_append_drop]
    rw [e]
    exact h2.append h4
theorem zpM {a : Addr} {v : Value} (h : w.cell? a = some v) : a.spot = none ∧ a.block < w.heap.size := by
  unfold World.cell? at h
  split at h
  · rename_i hg
    split at h
    · cases h
    · rename_i hs
      exact ⟨by simpa using hs, (Array.getElem?_eq_some_iff.1 hg).1⟩
  · cases h
theorem q4X : ∀ (n : Nat) (t : TypeId) (fuel : Nat) (cs : List Value) (x : DataW H × List MemPlace), qxZ P n t = true → DataW.trod enc P w 0 (fun _ => true) held fuel t cs = some x →
    ∃ ts, Wt P n t ts ∧ RepL w (fun b _ => b < w.heap.size) cs ts
  | 0, _, _, _, _, hp, _ => by cases hp
  | n + 1, t, fuel, cs, x, hp, h => by
    unfold qxZ at hp
    unfold Wt
    split at hp
    · rename_i hu
      obtain ⟨b, rfl, rfl⟩ := DataW.trod_bool hu h
      exact ⟨_, ⟨b, rfl⟩, .bool b, trivial⟩
    · rename_i k hu
      obtain ⟨m, rfl, rfl, hw⟩ := DataW.trod_int hu h
      exact ⟨_, ⟨m, rfl, hw⟩, .int k m, trivial⟩
    · rename_i e hu
      simp only [Bool.and_eq_true, decide_eq_true_eq] at hp
      rcases Deep.open_slice hu h with ⟨rfl, _⟩ | ⟨a, len, cap, m, n', D, Pl, rfl, _, hlc, hcm, hm, _, hel⟩
      · exact ⟨_, ⟨[], rfl, Nat.zero_le _, by simp⟩, .nil _, trivial⟩
      · simp only [if_true] at hm
        subst hm
        by_cases hc : m = 0
        · subst hc
          have : len = 0 := by omega
          subst this
          exact ⟨_, ⟨[], rfl, Nat.zero_le _, by simp⟩, .emp a _, trivial⟩
        · obtain ⟨cs0, h0, _⟩ := hel 0 (by omega)
          obtain ⟨_, hl0, hg0⟩ := World.cells?_some h0
          have hsp : a.spot = none := by
            have hz := hg0 0 hp.1
            rw [List.getElem?_eq_getElem (by omega), Nat.zero_mul] at hz
            simp only [Addr.add, if_true] at hz
            exact (zpM hz).1
          obtain ⟨b, off, sp⟩ := a
          simp only at hsp
          subst hsp
          obtain ⟨f, hf⟩ := Deep.choose_lt (α := List Value × List T) (n := len) (p := fun i y => w.cells? 0 ((⟨b, off, none⟩ : Addr).add (i * P.cellsOf e)) (P.cellsOf e) = some y.1 ∧ Wt P n e y.2 ∧ RepL w (fun b _ => b < w.heap.size) y.1 y.2) (fun i hi => by
            obtain ⟨cs', h1, h2⟩ := hel i (by omega)
            obtain ⟨ts, h3, h4⟩ := q4X n e n' cs' _ hp.2 h2
            exact ⟨(cs', ts), h1, h3, h4⟩)
          have hlen : ∀ i, i < len → (f i).1.length = P.cellsOf e ∧ (f i).2.length = P.cellsOf e := fun i hi => by
            obtain ⟨g1, _, g3⟩ := hf i hi
            have := (World.cells?_some g1).2.1
            exact ⟨this, by rw [← g3.length, this]⟩
          have hcell : ∀ i k, i < len → k < P.cellsOf e → w.cell? ⟨b, off + i * P.cellsOf e + k, none⟩ = some ((f i).1.getD k undef) := fun i k hi hk => by
            obtain ⟨g1, _, _⟩ := hf i hi
            have := (World.cells?_some g1).2.2 k hk
            rw [qtH, qtH] at this
            rw [this, List.getD, List.getElem?_eq_getElem (by rw [(hlen i hi).1]; exact hk)]
            rfl
          refine ⟨_, ⟨(List.range len).map fun i => (f i).2, rfl, by simp; omega, ?_⟩, ?_, trivial⟩
          · intro y hy
            obtain ⟨i, hi, rfl⟩ := List.mem_map.1 hy
            exact (hf i (List.mem_range.1 hi)).2.1
          · refine .sl b off len m _ _ (fun i k => (f i).1.getD k undef) (fun i k => (f i).2.getD k (.bool false)) (by simp) hlc ?_ ?_ ?_ hcell ?_
            · intro y hy
              obtain ⟨i, hi, rfl⟩ := List.mem_map.1 hy
              exact (hlen i (List.mem_range.1 hi)).2
            · intro i k y hy hk
              rw [List.getElem?_map] at hy
              obtain ⟨j, hj, rfl⟩ := Option.map_eq_some_iff.1 hy
              obtain ⟨hj1, hj2⟩ := List.getElem?_eq_some_iff.1 hj
              simp only [List.length_range] at hj1
              simp only [List.getElem_range] at hj2
              subst hj2
              rw [List.getD, List.getElem?_eq_getElem (by rw [(hlen i hj1).2]; exact hk)]
              rfl
            · intro i k hi hk
              exact (zpM (hcell i k hi hk)).2
            · intro i k hi hk
              refine (hf i hi).2.2.get (k := k) ?_ ?_
              · rw [List.getD, List.getElem?_eq_getElem (by rw [(hlen i hi).1]; exact hk)]; rfl
              · rw [List.getD, List.getElem?_eq_getElem (by rw [(hlen i hi).2]; exact hk)]; rfl
    · rename_i fs hu
      simp only [Bool.and_eq_true, beq_iff_eq, List.all_eq_true] at hp
      obtain ⟨xs, n', _, _, hl, hxl, hx⟩ := DataW.trod_struct hu h
      have := tile (w := w) (n := n) (I := fun b _ => b < w.heap.size) cs fs.toList 0 hp.1.1 (by rw [hl, hp.1.2]) (fun f hf => by
        obtain ⟨i, hi, hif⟩ := List.getElem_of_mem hf
        have h1 := hx i f (by rw [← Array.getElem?_toList, List.getElem?_eq_getElem hi, hif])
        rw [List.getElem?_eq_getElem (by rw [hxl]; simpa using hi)] at h1
        exact q4X n f.type n' _ _ (hp.2 f hf) h1)
      rw [List.drop_zero] at this
      exact this
    · rename_i m e hu
      simp only [Bool.and_eq_true, beq_iff_eq] at hp
      obtain ⟨xs, n', _, _, hl, hxl, hx⟩ := DataW.trod_array hu h
      have := tileA (w := w) (n := n) (e := e) (c := P.cellsOf e) (I := fun b _ => b < w.heap.size) cs m 0 (by rw [hl, Nat.zero_add, hp.1]) (fun j hj => by
        have h1 := hx j (by omega)
        rw [List.getElem?_eq_getElem (by omega)] at h1
        exact q4X n e n' _ _ hp.2 h1)
      rw [Nat.zero_mul, List.drop_zero] at this
      exact this
    · cases hp
def ztG : List T → TV
  | [x] => .c x
  | ts => .agg ts
def tvOf (P : Program) (t : TypeId) (ts : List T) : TV := match P.underlying t with
  | some (.struct _) | some (.array _ _) => .agg ts
  | _ => ztG ts
theorem q9R {n : Nat} {t : TypeId} {v : Value} {d : DataW H} {ps : List MemPlace} {r : Reach} (hp : qxZ P n t = true) (hv : Value.okWide P w r base t v)
    (h : DataW.Trod enc P w 0 (fun _ => true) held t v d ps) : ∃ ts, Wt P n t ts ∧ TVR w (fun b _ => b < w.heap.size) v (tvOf P t ts) := by
  obtain ⟨fuel, h⟩ := h
  obtain ⟨ts, h1, h2⟩ := q4X n t fuel _ _ hp h
  refine ⟨ts, h1, ?_⟩
  have agg : (∃ cs : Array Value, v = .agg cs) → TVR w (fun b _ => b < w.heap.size) v (.agg ts) := by
    rintro ⟨cs, rfl⟩
    exact ⟨cs, rfl, h2.crs⟩
  have one : (∀ cs : Array Value, v ≠ .agg cs) → TVR w (fun b _ => b < w.heap.size) v (ztG ts) := by
    intro hne
    clear agg h1
    have hc : v.cells.toList = [v] := by
      cases v <;> first | rfl | exact absurd rfl (hne _)
    rw [hc] at h2
    match ts, h2 with
    | [x], h2 => exact h2.1
    | [], h2 => exact h2.elim
    | _ :: _ :: _, h2 => exact h2.2.elim
  unfold qxZ at hp
  unfold tvOf
  unfold Value.okWide at hv
  cases n with
  | zero => cases hp
  | succ n =>
    simp only at hp
    split at hp
    · rename_i hu
      simp only [hu] at hv ⊢
      refine one fun cs e => ?_
      subst e
      simp [Cell.okWide, Cell.ok, hu] at hv
    · rename_i k hu
      simp only [hu] at hv ⊢
      refine one fun cs e => ?_
      subst e
      simp [Cell.okWide, Cell.ok, hu] at hv
    · rename_i k hu
      simp only [hu] at hv ⊢
      refine one fun cs e => ?_
      subst e
      simp [Cell.okWide, Cell.ok, hu] at hv
    · rename_i k hu
      simp only [hu] at hv ⊢
      obtain ⟨cs, rfl, _⟩ := hv
      exact agg ⟨cs, rfl⟩
    · rename_i m k hu
      simp only [hu] at hv ⊢
      obtain ⟨cs, rfl, _⟩ := hv
      exact agg ⟨cs, rfl⟩
    · cases hp
end
open Go.RowKit (Below)
section
variable {H : Type} {enc : TypeId × Value → H} {P : Program} {W : World} {r : Reach} {base n : Nat} {held : Bool} {t0 t1 t2 : TypeId} {v0 v1 v2 : Value} {d0 d1 d2 : DataW H} {p0 p1 p2 : List MemPlace}
theorem open2 (n0 : qxZ P n t0 = true) (n1 : qxZ P n t1 = true) (h : ∀ (j : Nat) t v, #[t0, t1][j]? = some t → #[v0, v1][j]? = some v → Value.okWide P W r base t v)
    (h0 : DataW.Trod enc P W 0 (fun _ => true) held t0 v0 d0 p0) (h1 : DataW.Trod enc P W 0 (fun _ => true) held t1 v1 d1 p1) :
    (∃ ts, Wt P n t0 ts ∧ TVR W (fun b _ => b < W.heap.size) v0 (tvOf P t0 ts)) ∧ (∃ ts, Wt P n t1 ts ∧ TVR W (fun b _ => b < W.heap.size) v1 (tvOf P t1 ts)) :=
  ⟨q9R n0 (h 0 t0 v0 rfl rfl) h0, q9R n1 (h 1 t1 v1 rfl rfl) h1⟩
end
theorem zsF {P : Program} {f : FuncId} {args : List TV} {W : World} {vs : List Value} (h : qc0 P f args (.c (.bool true))) (hv : TVRs W (fun b _ => b < W.heap.size) vs args) :
    Calls P f vs.toArray W fun e w' => e = .returned (.bool true) ∧ Below W.heap.size W w' := by
  refine (h _ W vs (fun _ _ h => h) hv).mono fun e w' ⟨v, he, hB, I', _, _, _, hr⟩ => ⟨?_, hB⟩
  have : Rep w' I' v (.bool true) := hr
  cases this
  exact he
theorem zmY {α : Type} {P : Program} {n : Nat} {e : TypeId} {ce : α → List T} {good : α → Prop} (h : ∀ ts, Wt P n e ts → ∃ a, ts = ce a ∧ good a) :
    ∀ es : List (List T), (∀ x ∈ es, Wt P n e x) → ∃ l : List α, es = l.map ce ∧ ∀ a ∈ l, good a
  | [], _ => ⟨[], rfl, fun _ h => by cases h⟩
  | x :: es, hx => by
    obtain ⟨a, rfl, ga⟩ := h x (hx x (List.mem_cons_self ..))
    obtain ⟨l, rfl, gl⟩ := zmY h es fun y hy => hx y (List.mem_cons_of_mem _ hy)
    exact ⟨a :: l, rfl, fun b hb => (List.mem_cons.1 hb).elim (fun e => e ▸ ga) (gl b)⟩
end Go.Am
namespace Go.Am.X
open Go.Proofs
theorem own : ownKnob Try.prog.godebug = none := by kernel_rfl
theorem ztQ : laidOutB Try.prog = true := by kernel_rfl
open Go.Proofs
theorem zx7 {n : Nat} {t : TypeId} (ht : Try.prog.underlying t = some (.int .i8)) {ts : List T} (h : Wt Try.prog n t ts) : ∃ x, ts = [T.int .i8 x] ∧ -128 ≤ x ∧ x < 128 := by
  cases n with
  | zero => exact h.elim
  | succ n =>
    simp only [Wt, ht] at h
    obtain ⟨m, rfl, hw⟩ := h
    have hx : -128 ≤ m ∧ m ≤ 127 := by simpa [Lit.wf, IntKind.min, IntKind.max, IntKind.signed, IntKind.bits] using hw
    exact ⟨m, rfl, by omega⟩
theorem zu4 {n : Nat} {t : TypeId} (ht : Try.prog.underlying t = some (.int .u8)) {ts : List T} (h : Wt Try.prog n t ts) : ∃ x, ts = [T.int .u8 x] ∧ 0 ≤ x ∧ x < 256 := by
  cases n with
  | zero => exact h.elim
  | succ n =>
    simp only [Wt, ht] at h
    obtain ⟨m, rfl, hw⟩ := h
    have hx : 0 ≤ m ∧ m ≤ 255 := by simpa [Lit.wf, IntKind.min, IntKind.max, IntKind.signed, IntKind.bits] using hw
    exact ⟨m, rfl, by omega⟩
theorem zu6 {n : Nat} {ts : List T} (h : Wt Try.prog n 26 ts) : ∃ q : zbK, ts = qkW q ∧ A2Ok q := by
  cases n with
  | zero => exact h.elim
  | succ n =>
    simp only [Wt, Try.underlying26] at h
    obtain ⟨a, b, rfl, h1, c, d, rfl, h2, rfl⟩ := h
    obtain ⟨x, rfl, hx⟩ := zx7 Try.underlying25 h1
    obtain ⟨y, rfl, hy⟩ := zx7 Try.underlying25 h2
    exact ⟨⟨x, y⟩, rfl, hx, hy⟩
theorem zyB {n : Nat} {ts : List T} (h : Wt Try.prog n 86 ts) : ∃ q : q00, ts = qxI q ∧ A2Ok q.e0 ∧ A2Ok q.e1 ∧ A2Ok q.e2 ∧ A2Ok q.e3 := by
  cases n with
  | zero => exact h.elim
  | succ n =>
    simp only [Wt, Try.underlying86] at h
    obtain ⟨a0, b0, rfl, h0, a1, b1, rfl, h1, a2, b2, rfl, h2, a3, b3, rfl, h3, rfl⟩ := h
    obtain ⟨x0, rfl, g0⟩ := zu6 h0
    obtain ⟨x1, rfl, g1⟩ := zu6 h1
    obtain ⟨x2, rfl, g2⟩ := zu6 h2
    obtain ⟨x3, rfl, g3⟩ := zu6 h3
    exact ⟨⟨x0, x1, x2, x3⟩, rfl, g0, g1, g2, g3⟩
theorem zyA {n : Nat} {ts : List T} (h : Wt Try.prog n 131 ts) : ∃ q : zzN, ts = zwF q ∧ (0 ≤ q.e0 ∧ q.e0 < 256) ∧ (0 ≤ q.e1 ∧ q.e1 < 256) ∧ (0 ≤ q.e2 ∧ q.e2 < 256) ∧ (0 ≤ q.e3 ∧ q.e3 < 256) := by
  cases n with
  | zero => exact h.elim
  | succ n =>
    simp only [Wt, Try.underlying131] at h
    obtain ⟨a0, b0, rfl, h0, a1, b1, rfl, h1, a2, b2, rfl, h2, a3, b3, rfl, h3, rfl⟩ := h
    obtain ⟨x0, rfl, g0⟩ := zu4 Try.underlying5 h0
    obtain ⟨x1, rfl, g1⟩ := zu4 Try.underlying5 h1
    obtain ⟨x2, rfl, g2⟩ := zu4 Try.underlying5 h2
    obtain ⟨x3, rfl, g3⟩ := zu4 Try.underlying5 h3
    exact ⟨⟨x0, x1, x2, x3⟩, rfl, g0, g1, g2, g3⟩
theorem zx9 {n : Nat} {ts : List T} (h : Wt Try.prog n 133 ts) : ∃ m : qbD, ts = qaO m ∧ zbI m := by
  cases n with
  | zero => exact h.elim
  | succ n =>
    simp only [Wt, Try.underlying133] at h
    obtain ⟨a, b, rfl, h1, c, d, rfl, h2, rfl⟩ := h
    obtain ⟨x, rfl, hx⟩ := zx7 Try.underlying25 h1
    obtain ⟨y, rfl, hy⟩ := zyA h2
    exact ⟨⟨x, y⟩, rfl, hx, hy⟩
theorem zwD : Try.prog.cellsOf 133 = 5 := by kernel_rfl
theorem zu5 {n : Nat} {ts : List T} (h : Wt Try.prog n 27 ts) : ∃ f : List qbD, ts = qn6 f ∧ (∀ a ∈ f, zbI a) ∧ f.length ≤ maxLen := by
  cases n with
  | zero => exact h.elim
  | succ n =>
    simp only [Wt, Try.underlying27] at h
    obtain ⟨es, rfl, hl, hx⟩ := h
    obtain ⟨l, rfl, hg⟩ := zmY (ce := qaO) (good := zbI) (fun ts h => zx9 h) es hx
    exact ⟨l, by rw [zwD]; rfl, hg, by simpa using hl⟩
theorem tv27 (f : List qbD) : tvOf Try.prog 27 (qn6 f) = .c (.sl 5 (f.map qaO)) := by simp only [tvOf, Try.underlying27, ztG, qn6]
theorem tv86 (b : q00) : tvOf Try.prog 86 (qxI b) = .agg (qxI b) := by simp only [tvOf, Try.underlying86]
end Go.Am.X
