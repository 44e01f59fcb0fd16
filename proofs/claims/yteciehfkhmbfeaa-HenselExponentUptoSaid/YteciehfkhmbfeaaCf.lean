/- HenselExponent: the statement of the second form, for every input of at most so many values. -/
import Derived.OpenShut
import Derived.Deep.Slices
import Derived.Test.YteciehfkhmbfeaaCa
import Derived.WalkKit
import Derived.ProofKit
import Derived.JoinedCond
import Derived.Test.YteciehfkhmbfeaaCe
import Derived.Test.YteciehfkhmbfeaaRows
namespace Go.Am

def tilesT (P : Program) : Nat → List Field → Bool
  | _, [] => true
  | off, f :: fs => f.offset == off && tilesT P (off + P.cellsOf f.type) fs
def tileEnd (P : Program) : Nat → List Field → Nat
  | off, [] => off
  | off, f :: fs => tileEnd P (off + P.cellsOf f.type) fs

/-- A type without pointers and the like. -/
def plainT (P : Program) : Nat → TypeId → Bool
  | 0, _ => false
  | n + 1, t => match P.underlying t with
    | some .bool => true
    | some (.int _) => true
    | some (.slice e) => decide (0 < P.cellsOf e) && plainT P n e
    | some (.struct fs) => tilesT P 0 fs.toList && (tileEnd P 0 fs.toList == P.cellsOf t) && fs.toList.all fun f => plainT P n f.type
    | some (.array m e) => (m * P.cellsOf e == P.cellsOf t) && plainT P n e
    | _ => false

def WtL (W : TypeId → List T → Prop) : List TypeId → List T → Prop
  | [], ts => ts = []
  | t :: r, ts => ∃ a b, ts = a ++ b ∧ W t a ∧ WtL W r b

/-- Trees of a type. -/
def Wt (P : Program) : Nat → TypeId → List T → Prop
  | 0, _, _ => False
  | n + 1, t, ts => match P.underlying t with
    | some .bool => ∃ b, ts = [.bool b]
    | some (.int k) => ∃ m, ts = [.int k m] ∧ (Lit.int k m).wf = true
    | some (.slice e) => ∃ es, ts = [.sl (P.cellsOf e) es] ∧ es.length ≤ maxLen ∧ ∀ x ∈ es, Wt P n e x
    | some (.struct fs) => WtL (Wt P n) (fs.toList.map (·.type)) ts
    | some (.array m e) => WtL (Wt P n) (List.replicate m e) ts
    | _ => False

def RepL (w : World) (I : Nat → Nat → Prop) : List Value → List T → Prop
  | [], [] => True
  | v :: vs, t :: ts => Rep w I v t ∧ RepL w I vs ts
  | _, _ => False

theorem RepL.append {w : World} {I : Nat → Nat → Prop} : ∀ {a b : List Value} {x y : List T}, RepL w I a x → RepL w I b y → RepL w I (a ++ b) (x ++ y)
  | [], _, [], _, _, h => h
  | _ :: _, _, _ :: _, _, h, h' => ⟨h.1, h.2.append h'⟩
  | [], _, _ :: _, _, h, _ => h.elim
  | _ :: _, _, [], _, h, _ => h.elim
theorem RepL.length {w : World} {I : Nat → Nat → Prop} : ∀ {a : List Value} {x : List T}, RepL w I a x → a.length = x.length
  | [], [], _ => rfl
  | _ :: _, _ :: _, h => by simp [h.2.length]
  | [], _ :: _, h => h.elim
  | _ :: _, [], h => h.elim
theorem RepL.get {w : World} {I : Nat → Nat → Prop} : ∀ {a : List Value} {x : List T} {k : Nat} {v : Value} {t : T}, RepL w I a x → a[k]? = some v → x[k]? = some t → Rep w I v t
  | _ :: _, _ :: _, 0, _, _, h, h1, h2 => by simp at h1 h2; subst h1; subst h2; exact h.1
  | _ :: _, _ :: _, k + 1, _, _, h, h1, h2 => h.2.get (k := k) (by simpa using h1) (by simpa using h2)
  | [], [], _, _, _, _, h1, _ => by simp at h1
  | [], _ :: _, _, _, _, h, _, _ => h.elim
  | _ :: _, [], _, _, _, h, _, _ => h.elim
theorem RepL.crs {w : World} {I : Nat → Nat → Prop} {L : Loc} {H : List (Nat × Blk)} : ∀ {a : List Value} {x : List T}, RepL w I a x → CRs w L H I a (x.map .t)
  | [], [], _ => trivial
  | _ :: _, _ :: _, h => ⟨⟨h.1.one, h.1⟩, h.2.crs⟩
  | [], _ :: _, h => h.elim
  | _ :: _, [], h => h.elim

section
variable {H : Type} {enc : TypeId × Value → H} {P : Program} {w : World} {base : Nat} {held : Bool}

theorem tile {n : Nat} {I : Nat → Nat → Prop} (cs : List Value) : ∀ (fs : List Field) (off : Nat), tilesT P off fs = true → cs.length = tileEnd P off fs →
    (∀ f ∈ fs, ∃ ts, Wt P n f.type ts ∧ RepL w I ((cs.drop f.offset).take (P.cellsOf f.type)) ts) → ∃ ts, WtL (Wt P n) (fs.map (·.type)) ts ∧ RepL w I (cs.drop off) ts
  | [], off, _, hl, _ => ⟨[], rfl, by rw [List.drop_of_length_le (by simp only [tileEnd] at hl; omega)]; trivial⟩
  | f :: fs, off, ht, hl, h => by
    simp only [tilesT, Bool.and_eq_true, beq_iff_eq] at ht
    obtain ⟨a, h1, h2⟩ := h f (List.mem_cons_self ..)
    obtain ⟨b, h3, h4⟩ := tile cs fs (off + P.cellsOf f.type) ht.2 hl (fun g hg => h g (List.mem_cons_of_mem _ hg))
    refine ⟨a ++ b, ⟨a, b, rfl, h1, h3⟩, ?_⟩
    have e : cs.drop off = (cs.drop off).take (P.cellsOf f.type) ++ cs.drop (off + P.cellsOf f.type) := by rw [← List.drop_drop, List.take_append_drop]
    rw [e]
    rw [ht.1] at h2
    exact h2.append h4

theorem tileA {n c : Nat} {e : TypeId} {I : Nat → Nat → Prop} (cs : List Value) : ∀ (m i : Nat), cs.length = (i + m) * c →
    (∀ j, j < i + m → ∃ ts, Wt P n e ts ∧ RepL w I ((cs.drop (j * c)).take c) ts) → ∃ ts, WtL (Wt P n) (List.replicate m e) ts ∧ RepL w I (cs.drop (i * c)) ts
  | 0, i, hl, _ => ⟨[], rfl, by rw [List.drop_of_length_le (by rw [hl]; simp)]; trivial⟩
  | m + 1, i, hl, h => by
    obtain ⟨a, h1, h2⟩ := h i (by omega)
    obtain ⟨b, h3, h4⟩ := tileA cs m (i + 1) (by rw [hl]; congr 1; omega) (fun j hj => h j (by omega))
    refine ⟨a ++ b, ⟨a, b, rfl, h1, h3⟩, ?_⟩
    have e : cs.drop (i * c) = (cs.drop (i * c)).take c ++ cs.drop ((i + 1) * c) := by rw [Nat.add_mul, Nat.one_mul, ← List.drop_drop, List.take_append_drop]
    rw [e]
    exact h2.append h4

theorem cell_some {a : Addr} {v : Value} (h : w.cell? a = some v) : a.spot = none ∧ a.block < w.heap.size := by
  unfold World.cell? at h
  split at h
  · rename_i hg
    split at h
    · cases h
    · rename_i hs
      exact ⟨by simpa using hs, (Array.getElem?_eq_some_iff.1 hg).1⟩
  · cases h

theorem open_plain : ∀ (n : Nat) (t : TypeId) (fuel : Nat) (cs : List Value) (x : DataW H × List MemPlace), plainT P n t = true → DataW.trod enc P w 0 (fun _ => true) held fuel t cs = some x →
    ∃ ts, Wt P n t ts ∧ RepL w (fun b _ => b < w.heap.size) cs ts
  | 0, _, _, _, _, hp, _ => by cases hp
  | n + 1, t, fuel, cs, x, hp, h => by
    unfold plainT at hp
    unfold Wt
    split at hp
    · rename_i hu
      obtain ⟨b, rfl, rfl⟩ := DataW.trod_bool hu h
      exact ⟨_, ⟨b, rfl⟩, .bool b, trivial⟩
    · rename_i k hu
      obtain ⟨m, rfl, rfl, hw⟩ := DataW.trod_int hu h
      exact ⟨_, ⟨m, rfl, hw⟩, .int k m, trivial⟩
    · rename_i e hu
      simp only [Bool.and_eq_true, decide_eq_true_eq] at hp
      rcases Deep.open_slice hu h with ⟨rfl, _⟩ | ⟨a, len, cap, m, n', D, Pl, rfl, _, hlc, hcm, hm, _, hel⟩
      · exact ⟨_, ⟨[], rfl, Nat.zero_le _, by simp⟩, .nil _, trivial⟩
      · simp only [if_true] at hm
        subst hm
        by_cases hc : m = 0
        · subst hc
          have : len = 0 := by omega
          subst this
          exact ⟨_, ⟨[], rfl, Nat.zero_le _, by simp⟩, .emp a _, trivial⟩
        · obtain ⟨cs0, h0, _⟩ := hel 0 (by omega)
          obtain ⟨_, hl0, hg0⟩ := World.cells?_some h0
          have hsp : a.spot = none := by
            have hz := hg0 0 hp.1
            rw [List.getElem?_eq_getElem (by omega), Nat.zero_mul] at hz
            simp only [Addr.add, if_true] at hz
            exact (cell_some hz).1
          obtain ⟨b, off, sp⟩ := a
          simp only at hsp
          subst hsp
          obtain ⟨f, hf⟩ := Deep.choose_lt (α := List Value × List T) (n := len) (p := fun i y => w.cells? 0 ((⟨b, off, none⟩ : Addr).add (i * P.cellsOf e)) (P.cellsOf e) = some y.1 ∧ Wt P n e y.2 ∧ RepL w (fun b _ => b < w.heap.size) y.1 y.2) (fun i hi => by
            obtain ⟨cs', h1, h2⟩ := hel i (by omega)
            obtain ⟨ts, h3, h4⟩ := open_plain n e n' cs' _ hp.2 h2
            exact ⟨(cs', ts), h1, h3, h4⟩)
          have hlen : ∀ i, i < len → (f i).1.length = P.cellsOf e ∧ (f i).2.length = P.cellsOf e := fun i hi => by
            obtain ⟨g1, _, g3⟩ := hf i hi
            have := (World.cells?_some g1).2.1
            exact ⟨this, by rw [← g3.length, this]⟩
          have hcell : ∀ i k, i < len → k < P.cellsOf e → w.cell? ⟨b, off + i * P.cellsOf e + k, none⟩ = some ((f i).1.getD k undef) := fun i k hi hk => by
            obtain ⟨g1, _, _⟩ := hf i hi
            have := (World.cells?_some g1).2.2 k hk
            rw [addr_add, addr_add] at this
            rw [this, List.getD, List.getElem?_eq_getElem (by rw [(hlen i hi).1]; exact hk)]
            rfl
          refine ⟨_, ⟨(List.range len).map fun i => (f i).2, rfl, by simp; omega, ?_⟩, ?_, trivial⟩
          · intro y hy
            obtain ⟨i, hi, rfl⟩ := List.mem_map.1 hy
            exact (hf i (List.mem_range.1 hi)).2.1
          · refine .sl b off len m _ _ (fun i k => (f i).1.getD k undef) (fun i k => (f i).2.getD k (.bool false)) (by simp) hlc ?_ ?_ ?_ hcell ?_
            · intro y hy
              obtain ⟨i, hi, rfl⟩ := List.mem_map.1 hy
              exact (hlen i (List.mem_range.1 hi)).2
            · intro i k y hy hk
              rw [List.getElem?_map] at hy
              obtain ⟨j, hj, rfl⟩ := Option.map_eq_some_iff.1 hy
              obtain ⟨hj1, hj2⟩ := List.getElem?_eq_some_iff.1 hj
              simp only [List.length_range] at hj1
              simp only [List.getElem_range] at hj2
              subst hj2
              rw [List.getD, List.getElem?_eq_getElem (by rw [(hlen i hj1).2]; exact hk)]
              rfl
            · intro i k hi hk
              exact (cell_some (hcell i k hi hk)).2
            · intro i k hi hk
              refine (hf i hi).2.2.get (k := k) ?_ ?_
              · rw [List.getD, List.getElem?_eq_getElem (by rw [(hlen i hi).1]; exact hk)]; rfl
              · rw [List.getD, List.getElem?_eq_getElem (by rw [(hlen i hi).2]; exact hk)]; rfl
    · rename_i fs hu
      simp only [Bool.and_eq_true, beq_iff_eq, List.all_eq_true] at hp
      obtain ⟨xs, n', _, _, hl, hxl, hx⟩ := DataW.trod_struct hu h
      have := tile (w := w) (n := n) (I := fun b _ => b < w.heap.size) cs fs.toList 0 hp.1.1 (by rw [hl, hp.1.2]) (fun f hf => by
        obtain ⟨i, hi, hif⟩ := List.getElem_of_mem hf
        have h1 := hx i f (by rw [← Array.getElem?_toList, List.getElem?_eq_getElem hi, hif])
        rw [List.getElem?_eq_getElem (by rw [hxl]; simpa using hi)] at h1
        exact open_plain n f.type n' _ _ (hp.2 f hf) h1)
      rw [List.drop_zero] at this
      exact this
    · rename_i m e hu
      simp only [Bool.and_eq_true, beq_iff_eq] at hp
      obtain ⟨xs, n', _, _, hl, hxl, hx⟩ := DataW.trod_array hu h
      have := tileA (w := w) (n := n) (e := e) (c := P.cellsOf e) (I := fun b _ => b < w.heap.size) cs m 0 (by rw [hl, Nat.zero_add, hp.1]) (fun j hj => by
        have h1 := hx j (by omega)
        rw [List.getElem?_eq_getElem (by omega)] at h1
        exact open_plain n e n' _ _ hp.2 h1)
      rw [Nat.zero_mul, List.drop_zero] at this
      exact this
    · cases hp

def oneOf : List T → TV
  | [x] => .c x
  | ts => .agg ts
def tvOf (P : Program) (t : TypeId) (ts : List T) : TV := match P.underlying t with
  | some (.struct _) | some (.array _ _) => .agg ts
  | _ => oneOf ts

theorem open_arg {n : Nat} {t : TypeId} {v : Value} {d : DataW H} {ps : List MemPlace} {r : Reach} (hp : plainT P n t = true) (hv : Value.okWide P w r base t v)
    (h : DataW.Trod enc P w 0 (fun _ => true) held t v d ps) : ∃ ts, Wt P n t ts ∧ TVR w (fun b _ => b < w.heap.size) v (tvOf P t ts) := by
  obtain ⟨fuel, h⟩ := h
  obtain ⟨ts, h1, h2⟩ := open_plain n t fuel _ _ hp h
  refine ⟨ts, h1, ?_⟩
  have agg : (∃ cs : Array Value, v = .agg cs) → TVR w (fun b _ => b < w.heap.size) v (.agg ts) := by
    rintro ⟨cs, rfl⟩
    exact ⟨cs, rfl, h2.crs⟩
  have one : (∀ cs : Array Value, v ≠ .agg cs) → TVR w (fun b _ => b < w.heap.size) v (oneOf ts) := by
    intro hne
    clear agg h1
    have hc : v.cells.toList = [v] := by
      cases v <;> first | rfl | exact absurd rfl (hne _)
    rw [hc] at h2
    match ts, h2 with
    | [x], h2 => exact h2.1
    | [], h2 => exact h2.elim
    | _ :: _ :: _, h2 => exact h2.2.elim
  unfold plainT at hp
  unfold tvOf
  unfold Value.okWide at hv
  cases n with
  | zero => cases hp
  | succ n =>
    simp only at hp
    split at hp
    · rename_i hu
      simp only [hu] at hv ⊢
      refine one fun cs e => ?_
      subst e
      simp [Cell.okWide, Cell.ok, hu] at hv
    · rename_i k hu
      simp only [hu] at hv ⊢
      refine one fun cs e => ?_
      subst e
      simp [Cell.okWide, Cell.ok, hu] at hv
    · rename_i k hu
      simp only [hu] at hv ⊢
      refine one fun cs e => ?_
      subst e
      simp [Cell.okWide, Cell.ok, hu] at hv
    · rename_i k hu
      simp only [hu] at hv ⊢
      obtain ⟨cs, rfl, _⟩ := hv
      exact agg ⟨cs, rfl⟩
    · rename_i m k hu
      simp only [hu] at hv ⊢
      obtain ⟨cs, rfl, _⟩ := hv
      exact agg ⟨cs, rfl⟩
    · cases hp
end
end Go.Am
namespace Go.Am
open Go.RowKit (Below)

section
variable {H : Type} {enc : TypeId × Value → H} {P : Program} {W : World} {r : Reach} {base n : Nat} {held : Bool} {t0 t1 t2 : TypeId} {v0 v1 v2 : Value} {d0 d1 d2 : DataW H} {p0 p1 p2 : List MemPlace}
theorem open2 (n0 : plainT P n t0 = true) (n1 : plainT P n t1 = true) (h : ∀ (j : Nat) t v, #[t0, t1][j]? = some t → #[v0, v1][j]? = some v → Value.okWide P W r base t v)
    (h0 : DataW.Trod enc P W 0 (fun _ => true) held t0 v0 d0 p0) (h1 : DataW.Trod enc P W 0 (fun _ => true) held t1 v1 d1 p1) :
    (∃ ts, Wt P n t0 ts ∧ TVR W (fun b _ => b < W.heap.size) v0 (tvOf P t0 ts)) ∧ (∃ ts, Wt P n t1 ts ∧ TVR W (fun b _ => b < W.heap.size) v1 (tvOf P t1 ts)) :=
  ⟨open_arg n0 (h 0 t0 v0 rfl rfl) h0, open_arg n1 (h 1 t1 v1 rfl rfl) h1⟩
theorem open3 (n0 : plainT P n t0 = true) (n1 : plainT P n t1 = true) (n2 : plainT P n t2 = true) (h : ∀ (j : Nat) t v, #[t0, t1, t2][j]? = some t → #[v0, v1, v2][j]? = some v → Value.okWide P W r base t v)
    (h0 : DataW.Trod enc P W 0 (fun _ => true) held t0 v0 d0 p0) (h1 : DataW.Trod enc P W 0 (fun _ => true) held t1 v1 d1 p1) (h2 : DataW.Trod enc P W 0 (fun _ => true) held t2 v2 d2 p2) :
    (∃ ts, Wt P n t0 ts ∧ TVR W (fun b _ => b < W.heap.size) v0 (tvOf P t0 ts)) ∧ (∃ ts, Wt P n t1 ts ∧ TVR W (fun b _ => b < W.heap.size) v1 (tvOf P t1 ts)) ∧ (∃ ts, Wt P n t2 ts ∧ TVR W (fun b _ => b < W.heap.size) v2 (tvOf P t2 ts)) :=
  ⟨open_arg n0 (h 0 t0 v0 rfl rfl) h0, open_arg n1 (h 1 t1 v1 rfl rfl) h1, open_arg n2 (h 2 t2 v2 rfl rfl) h2⟩
end

theorem calls_true {P : Program} {f : FuncId} {args : List TV} {W : World} {vs : List Value} (h : Holds P f args (.c (.bool true))) (hv : TVRs W (fun b _ => b < W.heap.size) vs args) :
    Calls P f vs.toArray W fun e w' => e = .returned (.bool true) ∧ Below W.heap.size W w' := by
  refine (h _ W vs (fun _ _ h => h) hv).mono fun e w' ⟨v, he, hB, I', _, _, _, hr⟩ => ⟨?_, hB⟩
  have : Rep w' I' v (.bool true) := hr
  cases this
  exact he

theorem wt_list {α : Type} {P : Program} {n : Nat} {e : TypeId} {ce : α → List T} {good : α → Prop} (h : ∀ ts, Wt P n e ts → ∃ a, ts = ce a ∧ good a) :
    ∀ es : List (List T), (∀ x ∈ es, Wt P n e x) → ∃ l : List α, es = l.map ce ∧ ∀ a ∈ l, good a
  | [], _ => ⟨[], rfl, fun _ h => by cases h⟩
  | x :: es, hx => by
    obtain ⟨a, rfl, ga⟩ := h x (hx x (List.mem_cons_self ..))
    obtain ⟨l, rfl, gl⟩ := wt_list h es fun y hy => hx y (List.mem_cons_of_mem _ hy)
    exact ⟨a :: l, rfl, fun b hb => (List.mem_cons.1 hb).elim (fun e => e ▸ ga) (gl b)⟩
end Go.Am

namespace Go.Am.X
open Go.Proofs
theorem wt_u32 {n : Nat} {t : TypeId} (ht : Try.prog.underlying t = some (.int .u32)) {ts : List T} (h : Wt Try.prog n t ts) : ∃ x, ts = ce_u32 x ∧ 0 ≤ x ∧ x < 4294967296 := by
  cases n with
  | zero => exact h.elim
  | succ n =>
    simp only [Wt, ht] at h
    obtain ⟨m, rfl, hw⟩ := h
    have hx : 0 ≤ m ∧ m ≤ 4294967295 := by simpa [Lit.wf, IntKind.min, IntKind.max, IntKind.signed, IntKind.bits] using hw
    exact ⟨m, rfl, by omega⟩
theorem cells101 : Try.prog.cellsOf 101 = 1 := by kernel_rfl
theorem wt_nat {n : Nat} {ts : List T} (h : Wt Try.prog n 43 ts) : ∃ l, ts = ce_Lu32 l ∧ Dig l ∧ l.length ≤ maxLen := by
  cases n with
  | zero => exact h.elim
  | succ n =>
    simp only [Wt, Try.underlying43] at h
    obtain ⟨es, rfl, hl, hx⟩ := h
    obtain ⟨l, rfl, hg⟩ := wt_list (ce := ce_u32) (good := fun x => 0 ≤ x ∧ x < 4294967296) (fun ts h => wt_u32 Try.underlying101 h) es hx
    exact ⟨l, by rw [cells101]; rfl, hg, by simpa using hl⟩
theorem wt_bool {n : Nat} {ts : List T} (h : Wt Try.prog n 4 ts) : ∃ b, ts = ce_bool b := by
  cases n with
  | zero => exact h.elim
  | succ n =>
    simp only [Wt, Try.underlying4] at h
    obtain ⟨b, rfl⟩ := h
    exact ⟨b, rfl⟩
theorem wt_Int {n : Nat} {ts : List T} (h : Wt Try.prog n 45 ts) : ∃ a : integer_Int, ts = ce_integer_Int a ∧ Dig a.Abs ∧ a.Abs.length ≤ maxLen := by
  cases n with
  | zero => exact h.elim
  | succ n =>
    simp only [Wt, Try.underlying45] at h
    obtain ⟨a, b, rfl, h1, c, d, rfl, h2, rfl⟩ := h
    obtain ⟨s, rfl⟩ := wt_bool h1
    obtain ⟨l, rfl, h3, h4⟩ := wt_nat h2
    exact ⟨⟨s, l⟩, rfl, h3, h4⟩
end Go.Am.X

namespace Go.Proofs.Yteciehfkhmbfeaa.henselExponent
open Go.ChangeShapes Go.WideShapes Go.ChangeAt Go.RowKit Go.Am Go.Am.X

theorem own : ownKnob Try.prog.godebug = none := by kernel_rfl
theorem laidOut : laidOutB Try.prog = true := by kernel_rfl

set_option maxRecDepth 100000 in
theorem contract (H : Type) (enc : TypeId × Value → H) (W : World) (base : Nat) (args : Array Value) (ds gs : List (DataW H)) (before : List MemPlace)
    (hval : ∀ (j : Nat) t v, Try.f10.params[j]? = some t → args[j]? = some v → Value.okWide Try.prog W .any base t v)
    (hW : DataW.Whole enc Try.prog Try.f10.params.toList Rows.henselExponentSpec.vars false W args.toList ds gs before) :
    Calls Try.prog 10 args W fun e W' => ∃ v, e = .returned v ∧ Rows.henselExponentSpec.post enc Try.prog Try.f10 false true false false W args v W' := by
  have hW' := hW
  obtain ⟨p, q, hA0, hV, rfl, hfz, hnd⟩ := hW
  have hA : DataW.TrodAll enc Try.prog W 0 (fun _ => true) true Try.f10.params.toList args.toList ds p := hA0
  rw [Try.params10] at hA hval
  obtain ⟨v0, vs0, d0, ds0, p0, q0, hargs, rfl, rfl, h0, r0⟩ := trodAll_cons hA
  obtain ⟨v1, vs1, d1, ds1, p1, q1, rfl, rfl, rfl, h1, r1⟩ := trodAll_cons r0
  obtain ⟨rfl, rfl, rfl⟩ := trodAll_nil r1
  obtain rfl : args = #[v0, v1] := by cases args; simp_all
  obtain ⟨rfl, rfl⟩ := trodVars_none hV
  obtain ⟨n, n0, n1⟩ : ∃ n, plainT Try.prog n 45 = true ∧ plainT Try.prog n 101 = true := ⟨5, by kernel_rfl, by kernel_rfl⟩
  obtain ⟨⟨ts0, w0, g0⟩, ⟨ts1, w1, g1⟩⟩ := open2 n0 n1 @hval h0 h1
  obtain ⟨b, rfl, hb, _⟩ := wt_Int w0
  obtain ⟨x, rfl, hx⟩ := wt_u32 Try.underlying101 w1
  have e0 : tvOf Try.prog 45 (ce_integer_Int b) = .agg (ce_integer_Int b) := by simp only [tvOf, Try.underlying45]
  have e1 : tvOf Try.prog 101 (ce_u32 x) = .c (.int .u32 x) := by simp only [tvOf, Try.underlying101, oneOf, ce_u32]
  rw [e0] at g0
  rw [e1] at g1
  obtain ⟨K, hK⟩ := HenselExponent_ev hb hx
  have hh := cylinderlaw12_HenselExponent_holds (hK K (Nat.le_refl _))
  have hlt := hW'.lt
  simp only [List.append_nil] at hW' hlt
  refine (calls_true (vs := [v0, v1]) hh ⟨g0, g1, trivial⟩).mono fun e W' ⟨he, hB⟩ => ?_
  subst he
  refine ⟨_, rfl, _, _, _, [], p0 ++ p1, [], hW', trodAll_cons_mk (shut_bool Try.underlying4 _) trodAll_mk0, ?_, rfl, hB.frame _, fun h => by cases h⟩
  rw [Try.params10]
  have := trodAll_cons_mk (Below.trod laidOut (by kernel_rfl) (of_decide_eq_true (by kernel_rfl)) h0 hB (fun x hx => hlt x (List.mem_append_left _ hx)))
    (trodAll_cons_mk (Below.trod laidOut (by kernel_rfl) (of_decide_eq_true (by kernel_rfl)) h1 hB (fun x hx => hlt x (List.mem_append_right _ hx))) trodAll_mk0)
  rw [List.append_nil] at this
  exact this

set_option maxRecDepth 100000 in
theorem lifted (os : Os) (started : os.Started) (H : Type) (enc : TypeId × Value → H) (F : Stop.Interp) :
    ReturnsInHanded {} Try.checked os 10 .any ((Rows.OpenSpec.upto Rows.henselExponentSpec).pre6 enc Try.prog Try.f10 Rows.henselExponentUptoRow.domain false) (((Rows.OpenSpec.upto Rows.henselExponentSpec).at F).post enc Try.prog Try.f10 false true false false) := by
  refine returnsInHanded_of_cond (C := Try.checked) (s := Rows.OpenSpec.upto Rows.henselExponentSpec) (k := Rows.uptoSmall) rfl own started (by kernel_rfl) Try.func10
    (OpenSpec.witness (enc := enc) (C := Try.checked) (s := Rows.OpenSpec.upto Rows.henselExponentSpec) (k := Rows.uptoSmall) rfl false ⟨#[], #[.agg #[.bool false, .slice none 0 0], .int .u32 0], []⟩ 8 (by kernel_rfl) (by kernel_rfl) (by kernel_rfl)
      (x := ([.agg [.lit (.bool false), .nil], .lit (.int .u32 0)], [], [])) (by kernel_rfl) rfl (by kernel_rfl)) ?_
  intro W base args ds gs before hval hW _ hk _
  exact contract H enc W base args ds gs before hval hW

theorem over : Rows.henselExponentUptoRow.holds Try.pinned (Rows.OpenSpec.upto Rows.henselExponentSpec) :=
  OpenClaim.holds_of_cond 10 Try.f10 rfl rfl rfl rfl rfl rfl rfl ⟨rfl, rfl, rfl, rfl, rfl⟩ rfl rfl rfl rfl rfl (by kernel_rfl) Try.func10 (by kernel_rfl)
    (of_decide_eq_true (by kernel_rfl)) (by unfold Func.isWrapper; first | (rw [if_pos (by decide +kernel)]; kernel_rfl) | (rw [if_neg (by decide +kernel)]; exact ⟨rfl, rfl⟩))
    (fun os started H enc _ F => lifted os started H enc F)

theorem proved : Rows.HenselExponentUptoSaid :=
  over
end Go.Proofs.Yteciehfkhmbfeaa.henselExponent
