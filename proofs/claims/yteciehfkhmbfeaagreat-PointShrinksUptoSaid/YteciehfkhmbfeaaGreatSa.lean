/- Part 1 of the proof: Am1 .. AmR. -/
import Derived.WalkKit
import Derived.Laws.OwnMore
import Derived.Laws.MakeOwn
import Derived.Laws.Slices
import Derived.Laws.Small
import Derived.Below
import Derived.Orders
import Derived.WideLaws
import Derived.Laws.Entries
import Derived.Great.BuildSlice
import Derived.Laws.CopyRow
import Derived.RangeFuncLeaves
import Derived.RangeFuncFrom
import Derived.Tactics
import Derived.TacticsIn
import Derived.OrdersIn
namespace Go.Am
open Go.RowKit (Below)
inductive T where
  | bool (b : Bool)
  | int (k : IntKind) (n : Int)
  | str (s : ByteArray)
  | fn (f : FuncId)
  | sl (sz : Nat) (es : List (List T))
inductive Rep (w : World) (I : Nat → Nat → Prop) : Value → T → Prop where
  | bool (b) : Rep w I (.bool b) (.bool b)
  | int (k n) : Rep w I (.int k n) (.int k n)
  | str (s) : Rep w I (.string s) (.str s)
  | fn (f) : Rep w I (.func (.func f) #[] #[]) (.fn f)
  | nil (sz) : Rep w I (.slice none 0 0) (.sl sz [])
  | emp (a sz) : Rep w I (.slice (some a) 0 0) (.sl sz [])
  | sl (b off len cap sz : Nat) (es : List (List T)) (cs : Nat → Nat → Value) (ts : Nat → Nat → T)
      (hlen : es.length = len) (hcap : len ≤ cap)
      (hsz : ∀ e ∈ es, e.length = sz)
      (hts : ∀ i k e, es[i]? = some e → k < sz → e[k]? = some (ts i k))
      (hI : ∀ i k, i < len → k < sz → I b (off + i * sz + k))
      (hcell : ∀ i k, i < len → k < sz → w.cell? ⟨b, off + i * sz + k, none⟩ = some (cs i k))
      (hrep : ∀ i k, i < len → k < sz → Rep w I (cs i k) (ts i k)) :
      Rep w I (.slice (some ⟨b, off, none⟩) len cap) (.sl sz es)
theorem Rep.one {w I v t} (h : Rep w I v t) : v.oneCell' = true := by cases h <;> rfl
theorem Rep.mono {w w' : World} {I I' : Nat → Nat → Prop} {v : Value} {t : T} (h : Rep w I v t)
    (hI : ∀ b o, I b o → I' b o) (hc : ∀ b o, I b o → w'.cell? ⟨b, o, none⟩ = w.cell? ⟨b, o, none⟩) : Rep w' I' v t := by
  induction h with
  | bool b => exact .bool b
  | int k n => exact .int k n
  | str s => exact .str s
  | fn f => exact .fn f
  | nil sz => exact .nil sz
  | emp a sz => exact .emp a sz
  | sl b off len cap sz es cs ts hlen hcap hsz hts hi hcell hrep ih =>
    exact .sl b off len cap sz es cs ts hlen hcap hsz hts (fun i k a c => hI _ _ (hi i k a c)) (fun i k a c => (hc _ _ (hi i k a c)).trans (hcell i k a c)) ih
inductive Cap where
  | ptr (j k : Nat)
  | t (x : T)
inductive C where
  | t (x : T)
  | nil
  | row (j off len : Nat)
  | clip (j off len : Nat)
  | ptr (j k : Nat)
  | rptr (j i k : Nat)
  | ep (el : List T) (k : Nat)
  | fn (f : FuncId) (caps : List Cap)
  | any
  | yd (l : Nat)
  | asl (j k n : Nat)
inductive V where
  | c (x : C)
  | agg (xs : List C)
  | tup (xs : List (Bool × List C))
inductive Blk where
  | var (cs : List C)
  | row (e sz : Nat) (es : List (List T)) (fz : Nat)
structure St where
  tm : List (Nat × V)
  hp : List (Nat × Blk)
  ex : List V
structure Loc where
  m : Nat → Nat
  cp : Nat → Nat
  ds : List Nat
def Cap.R (w : World) (L : Loc) (H : List (Nat × Blk)) (I : Nat → Nat → Prop) : Value → Cap → Prop
  | v, .ptr j k => (H.lookup j).isSome → v = .pointer (some ⟨L.m j, k, none⟩)
  | v, .t x => Rep w I v x
def zr7 (w : World) (L : Loc) (H : List (Nat × Blk)) (I : Nat → Nat → Prop) : List Value → List Cap → Prop
  | [], [] => True
  | v :: vs, x :: xs => Cap.R w L H I v x ∧ zr7 w L H I vs xs
  | _, _ => False
def CR (w : World) (L : Loc) (H : List (Nat × Blk)) (I : Nat → Nat → Prop) (v : Value) : C → Prop
  | .t x => Rep w I v x
  | .nil => ∃ a, v = .slice a 0 0
  | .row j off len => ∀ e sz es fz, H.lookup j = some (.row e sz es fz) → off + len ≤ es.length ∧ v = .slice (some ⟨L.m j, off * sz, none⟩) len (L.cp j - off)
  | .clip j off len => ∀ e sz es fz, H.lookup j = some (.row e sz es fz) → off + len ≤ es.length ∧ ∃ cap, len ≤ cap ∧ v = .slice (some ⟨L.m j, off * sz, none⟩) len cap
  | .ptr j k => (H.lookup j).isSome → v = .pointer (some ⟨L.m j, k, none⟩)
  | .rptr j i k => ∀ e sz es fz, H.lookup j = some (.row e sz es fz) → i < es.length ∧ v = .pointer (some ⟨L.m j, i * sz + k, none⟩)
  | .ep el k => ∃ b off, v = .pointer (some ⟨b, off + k, none⟩) ∧ ∀ i t, el[i]? = some t → I b (off + i) ∧ ∃ u, w.cell? ⟨b, off + i, none⟩ = some u ∧ Rep w I u t
  | .fn f caps => ∃ cs, v = .func (.func f) #[] cs ∧ zr7 w L H I cs.toList caps
  | .any => True
  | .yd l => v = .func (.yield l) #[] #[]
  | .asl j k n => (H.lookup j).isSome → v = .slice (some ⟨L.m j, k, none⟩) n n
def CRs (w : World) (L : Loc) (H : List (Nat × Blk)) (I : Nat → Nat → Prop) : List Value → List C → Prop
  | [], [] => True
  | v :: vs, x :: xs => (v.oneCell' = true ∧ CR w L H I v x) ∧ CRs w L H I vs xs
  | _, _ => False
def UR (w : World) (L : Loc) (H : List (Nat × Blk)) (I : Nat → Nat → Prop) (v : Value) : Bool × List C → Prop
  | (true, xs) => ∃ cs, v = .agg cs ∧ CRs w L H I cs.toList xs
  | (false, xs) => ∃ x, xs = [x] ∧ CR w L H I v x
def URs (w : World) (L : Loc) (H : List (Nat × Blk)) (I : Nat → Nat → Prop) : List Value → List (Bool × List C) → Prop
  | [], [] => True
  | v :: vs, x :: xs => UR w L H I v x ∧ URs w L H I vs xs
  | _, _ => False
def VR (w : World) (L : Loc) (H : List (Nat × Blk)) (I : Nat → Nat → Prop) (v : Value) : V → Prop
  | .c x => CR w L H I v x
  | .agg xs => ∃ cs, v = .agg cs ∧ CRs w L H I cs.toList xs
  | .tup xs => ∃ cs, v = .tuple cs ∧ URs w L H I cs.toList xs
def VRs (w : World) (L : Loc) (H : List (Nat × Blk)) (I : Nat → Nat → Prop) : List Value → List V → Prop
  | [], [] => True
  | v :: vs, x :: xs => VR w L H I v x ∧ VRs w L H I vs xs
  | _, _ => False
def BR (w : World) (L : Loc) (H : List (Nat × Blk)) (I : Nat → Nat → Prop) (B j : Nat) : Blk → Prop
  | .var cs => B ≤ L.m j ∧ (∀ o, ¬ I (L.m j) o) ∧ ∃ c ty, w.heap[L.m j]? = some (.cells c ty (0, 0)) ∧ CRs w L H I c.toList cs
  | .row e sz es fz => B ≤ L.m j ∧ 0 < sz ∧ es.length ≤ L.cp j ∧ L.cp j ≤ maxLen ∧ (∀ x ∈ es, x.length = sz) ∧ (∀ o, I (L.m j) o → o < fz * sz) ∧
      ∃ c, w.heap[L.m j]? = some (.cells c e (0, 0)) ∧ c.size = L.cp j * sz ∧
        (∀ i k x t, es[i]? = some x → x[k]? = some t → ∃ v, c[i * sz + k]? = some v ∧ Rep w I v t)
structure Cx where
  w0 : World
  I0 : Nat → Nat → Prop
  xs : List Value
  n : Nat
  rd : Option Nat
  ks : List (Nat × Obj)
def zoU (ks : List (Nat × Obj)) (w : World) : Prop := (ks.map (·.1)).Nodup ∧ ∀ p ∈ ks, w.heap[p.1]? = some p.2 ∧ ∀ c t r, p.2 ≠ .cells c t r
def zm7 (ds : List Nat) : List Deferred := ds.map fun D => { target := .collected D, args := #[] }
structure SimD (cx : Cx) (L : Loc) (I : Nat → Nat → Prop) (st : St) (a : Act) (w : World) : Prop where
  below : Below cx.w0.heap.size cx.w0 w
  i0 : ∀ b o, cx.I0 b o → I b o
  i1 : ∀ b o, I b o → cx.I0 b o ∨ cx.w0.heap.size ≤ b
  ib : ∀ b o, I b o → b < w.heap.size
  inj : ∀ j j' b b', st.hp.lookup j = some b → st.hp.lookup j' = some b' → L.m j = L.m j' → j = j'
  hp : ∀ j b, st.hp.lookup j = some b → BR w L st.hp I cx.w0.heap.size j b
  tm : ∀ t v, st.tm.lookup t = some v → VR w L st.hp I (a.tmps.getD t undef) v ∧ t < cx.n
  ex : VRs w L st.hp I cx.xs st.ex
  defers : a.defers = zm7 L.ds
  kp : zoU cx.ks w
  mks : L.ds.Nodup ∧ ∀ D ∈ L.ds, w.heap[D]? = some (.deferred (some [])) ∧ cx.w0.heap.size ≤ D ∧ ∀ p ∈ cx.ks, p.1 ≠ D
  size : a.tmps.size = cx.n
def Sim (cx : Cx) (st : St) (a : Act) (w : World) : Prop := ∃ L I, SimD cx L I st a w
def Cap.free (j : Option Nat) : Cap → Bool
  | .ptr j' _ => j != some j'
  | .t _ => true
def q4K (j : Option Nat) : List Cap → Bool
  | [] => true
  | x :: xs => x.free j && q4K j xs
def C.free (j : Option Nat) : C → Bool
  | .row j' _ _ | .clip j' _ _ | .ptr j' _ | .rptr j' _ _ | .asl j' _ _ => j != some j'
  | .fn _ caps => q4K j caps
  | _ => true
def qpF (j : Option Nat) : List C → Bool
  | [] => true
  | x :: xs => x.free j && qpF j xs
def zlV (j : Option Nat) : List (Bool × List C) → Bool
  | [] => true
  | x :: xs => qpF j x.2 && zlV j xs
def V.free (j : Option Nat) : V → Bool
  | .c x => x.free j
  | .agg xs => qpF j xs
  | .tup xs => zlV j xs
def q2F (j : Option Nat) : List V → Bool
  | [] => true
  | x :: xs => x.free j && q2F j xs
def Blk.free (j : Option Nat) : Blk → Bool
  | .var cs => qpF j cs
  | .row .. => true
theorem Cap.free_none : ∀ x : Cap, x.free none = true := by intro x; cases x <;> simp [Cap.free]
theorem zaQ : ∀ xs : List Cap, q4K none xs = true
  | [] => rfl
  | x :: xs => by simp [q4K, Cap.free_none, zaQ xs]
theorem C.free_none : ∀ x : C, x.free none = true := by intro x; cases x <;> simp [C.free, zaQ]
theorem qpE : ∀ xs : List C, qpF none xs = true
  | [] => rfl
  | x :: xs => by simp [qpF, C.free_none, qpE xs]
theorem zgL : ∀ xs : List (Bool × List C), zlV none xs = true
  | [] => rfl
  | x :: xs => by simp [zlV, qpE, zgL xs]
theorem V.free_none : ∀ x : V, x.free none = true := by intro x; cases x <;> simp [V.free, C.free_none, qpE, zgL]
theorem qgB : ∀ xs : List V, q2F none xs = true
  | [] => rfl
  | x :: xs => by simp [q2F, V.free_none, qgB xs]
theorem Blk.free_none : ∀ x : Blk, x.free none = true := by intro x; cases x <;> simp [Blk.free, qpE]
section mono
variable {w w' : World} {L L' : Loc} {H H' : List (Nat × Blk)} {I I' : Nat → Nat → Prop} {x? : Option Nat}
structure Keep (x? : Option Nat) (w w' : World) (L L' : Loc) (H H' : List (Nat × Blk)) (I I' : Nat → Nat → Prop) : Prop where
  imm : ∀ b o, I b o → I' b o
  cell : ∀ b o, I b o → w'.cell? ⟨b, o, none⟩ = w.cell? ⟨b, o, none⟩
  ptr : ∀ j, (x? != some j) = true → (H'.lookup j).isSome → (H.lookup j).isSome ∧ L'.m j = L.m j
  row : ∀ j e sz es fz, (x? != some j) = true → H'.lookup j = some (.row e sz es fz) → ∃ es₀ fz₀, H.lookup j = some (.row e sz es₀ fz₀) ∧ es₀.length ≤ es.length ∧ L'.cp j = L.cp j
theorem Keep.rep (k : Keep x? w w' L L' H H' I I') {v : Value} {t : T} (h : Rep w I v t) : Rep w' I' v t := h.mono k.imm k.cell
theorem Keep.cap (k : Keep x? w w' L L' H H' I I') {v : Value} {x : Cap} (f : x.free x? = true) (h : x.R w L H I v) : x.R w' L' H' I' v := by
  cases x with
  | ptr j o => intro hs; obtain ⟨h1, h2⟩ := k.ptr j f hs; rw [h2]; exact h h1
  | t x => exact k.rep h
theorem Keep.caps (k : Keep x? w w' L L' H H' I I') : ∀ {vs : List Value} {xs : List Cap}, q4K x? xs = true → zr7 w L H I vs xs → zr7 w' L' H' I' vs xs
  | [], [], _, _ => trivial
  | _ :: _, _ :: _, f, h => by simp only [q4K, Bool.and_eq_true] at f; exact ⟨k.cap f.1 h.1, k.caps f.2 h.2⟩
  | [], _ :: _, _, h => h.elim
  | _ :: _, [], _, h => h.elim
theorem Keep.c (k : Keep x? w w' L L' H H' I I') {v : Value} {x : C} (f : x.free x? = true) (h : CR w L H I v x) : CR w' L' H' I' v x := by
  cases x with
  | t x => exact k.rep h
  | nil => exact h
  | row j off len =>
    intro e sz es fz hj
    obtain ⟨es₀, fz₀, h0, hl, hc⟩ := k.row j e sz es fz f hj
    obtain ⟨h1, h2⟩ := h e sz es₀ fz₀ h0
    rw [hc, (k.ptr j f (by rw [hj]; rfl)).2]
    exact ⟨by omega, h2⟩
  | clip j off len =>
    intro e sz es fz hj
    obtain ⟨es₀, fz₀, h0, hl, hc⟩ := k.row j e sz es fz f hj
    obtain ⟨h1, h2⟩ := h e sz es₀ fz₀ h0
    rw [(k.ptr j f (by rw [hj]; rfl)).2]
    exact ⟨by omega, h2⟩
  | ptr j o => intro hs; obtain ⟨h1, h2⟩ := k.ptr j f hs; rw [h2]; exact h h1
  | rptr j i o =>
    intro e sz es fz hj
    obtain ⟨es₀, fz₀, h0, hl, hc⟩ := k.row j e sz es fz f hj
    obtain ⟨h1, h2⟩ := h e sz es₀ fz₀ h0
    rw [(k.ptr j f (by rw [hj]; rfl)).2]
    exact ⟨by omega, h2⟩
  | ep el o =>
    obtain ⟨b, off, h1, h2⟩ := h
    refine ⟨b, off, h1, fun i t hi => ?_⟩
    obtain ⟨g1, u, g2, g3⟩ := h2 i t hi
    exact ⟨k.imm _ _ g1, u, (k.cell _ _ g1).trans g2, k.rep g3⟩
  | fn g caps => obtain ⟨cs, h1, h2⟩ := h; exact ⟨cs, h1, k.caps f h2⟩
  | any => trivial
  | yd l => exact h
  | asl j o n => intro hs; obtain ⟨h1, h2⟩ := k.ptr j f hs; rw [h2]; exact h h1
theorem Keep.cs (k : Keep x? w w' L L' H H' I I') : ∀ {vs : List Value} {xs : List C}, qpF x? xs = true → CRs w L H I vs xs → CRs w' L' H' I' vs xs
  | [], [], _, _ => trivial
  | _ :: _, _ :: _, f, h => by simp only [qpF, Bool.and_eq_true] at f; exact ⟨⟨h.1.1, k.c f.1 h.1.2⟩, k.cs f.2 h.2⟩
  | [], _ :: _, _, h => h.elim
  | _ :: _, [], _, h => h.elim
theorem Keep.u (k : Keep x? w w' L L' H H' I I') {v : Value} : ∀ {x : Bool × List C}, qpF x? x.2 = true → UR w L H I v x → UR w' L' H' I' v x
  | (true, _), f, ⟨cs, h1, h2⟩ => ⟨cs, h1, k.cs f h2⟩
  | (false, _), f, ⟨x, h1, h2⟩ => by
    cases h1
    simp only [qpF, Bool.and_eq_true] at f
    exact ⟨x, rfl, k.c f.1 h2⟩
theorem Keep.us (k : Keep x? w w' L L' H H' I I') : ∀ {vs : List Value} {xs : List (Bool × List C)}, zlV x? xs = true → URs w L H I vs xs → URs w' L' H' I' vs xs
  | [], [], _, _ => trivial
  | _ :: _, _ :: _, f, h => by simp only [zlV, Bool.and_eq_true] at f; exact ⟨k.u f.1 h.1, k.us f.2 h.2⟩
  | [], _ :: _, _, h => h.elim
  | _ :: _, [], _, h => h.elim
theorem Keep.v (k : Keep x? w w' L L' H H' I I') {v : Value} {x : V} (f : x.free x? = true) (h : VR w L H I v x) : VR w' L' H' I' v x := by
  cases x with
  | c x => exact k.c f h
  | agg xs => obtain ⟨cs, h1, h2⟩ := h; exact ⟨cs, h1, k.cs f h2⟩
  | tup xs => obtain ⟨cs, h1, h2⟩ := h; exact ⟨cs, h1, k.us f h2⟩
theorem Keep.vs (k : Keep x? w w' L L' H H' I I') : ∀ {vs : List Value} {xs : List V}, q2F x? xs = true → VRs w L H I vs xs → VRs w' L' H' I' vs xs
  | [], [], _, _ => trivial
  | _ :: _, _ :: _, f, h => by simp only [q2F, Bool.and_eq_true] at f; exact ⟨k.v f.1 h.1, k.vs f.2 h.2⟩
  | [], _ :: _, _, h => h.elim
  | _ :: _, [], _, h => h.elim
end mono
open Go.RowKit (Below)
theorem qcV {β : Type} (k t : Nat) (v : β) (l : List (Nat × β)) : List.lookup t ((k, v) :: l) = if t = k then some v else l.lookup t := by
  simp only [List.lookup]
  by_cases h : t = k
  · simp [h]
  · have : (t == k) = false := by simpa using h
    simp [h, this]
theorem Rep.int_inv {w I v k n} (h : Rep w I v (.int k n)) : v = .int k n := by cases h; rfl
theorem Rep.bool_inv {w I v b} (h : Rep w I v (.bool b)) : v = .bool b := by cases h; rfl
theorem Rep.str_inv {w I v b} (h : Rep w I v (.str b)) : v = .string b := by cases h; rfl
theorem Rep.fn_inv {w I v f} (h : Rep w I v (.fn f)) : v = .func (.func f) #[] #[] := by cases h; rfl
def St.put (st : St) (t : Nat) (v : V) : St := { st with tm := (t, v) :: st.tm }
def St.put? (st : St) : Option Tmp → V → St
  | some t, v => st.put t v
  | none, _ => st
theorem St.put_lookup (st : St) (t : Nat) (v : V) (t' : Nat) : (st.put t v).tm.lookup t' = if t' = t then some v else st.tm.lookup t' := by
  simp only [St.put, qcV]
theorem SimD.put {cx : Cx} {L : Loc} {I : Nat → Nat → Prop} {st : St} {a : Act} {w : World} (h : SimD cx L I st a w) {t : Nat} {v : V} {val : Value}
    (hv : VR w L st.hp I val v) (ht : t < cx.n) : SimD cx L I (st.put t v) { a with tmps := a.tmps.setIfInBounds t val } w where
  below := h.below
  i0 := h.i0
  i1 := h.i1
  ib := h.ib
  inj := h.inj
  hp := h.hp
  ex := h.ex
  defers := h.defers
  kp := h.kp
  mks := h.mks
  size := by simpa using h.size
  tm := by
    intro t' v' hl
    rw [St.put_lookup] at hl
    split at hl
    · rename_i e; subst e
      cases hl
      have ht' : t' < a.tmps.size := by rw [h.size]; exact ht
      refine ⟨?_, ht⟩
      have : (a.tmps.setIfInBounds t' val).getD t' undef = val := by simp [ht']
      rw [this]; exact hv
    · rename_i hne
      obtain ⟨h1, h2⟩ := h.tm t' v' hl
      refine ⟨?_, h2⟩
      have : (a.tmps.setIfInBounds t val).getD t' undef = a.tmps.getD t' undef := by
        simp [Array.getElem?_setIfInBounds_ne (Ne.symm hne)]
      rw [this]; exact h1
def qpG : Value → C
  | .bool b => .t (.bool b)
  | .int k n => .t (.int k n)
  | .string s => .t (.str s)
  | .slice none 0 0 => .nil
  | _ => .any
def zx0 : Value → V
  | .agg cs => if cs.all (·.oneCell') then .agg (cs.toList.map qpG) else .c .any
  | v => .c (qpG v)
theorem zrH (w : World) (L : Loc) (H : List (Nat × Blk)) (I : Nat → Nat → Prop) (v : Value) : CR w L H I v (qpG v) := by
  unfold qpG
  split
  · exact .bool _
  · exact .int _ _
  · exact .str _
  · exact ⟨none, rfl⟩
  · trivial
theorem qw8 (w : World) (L : Loc) (H : List (Nat × Blk)) (I : Nat → Nat → Prop) : ∀ vs : List Value, (∀ v ∈ vs, v.oneCell' = true) → CRs w L H I vs (vs.map qpG)
  | [], _ => trivial
  | v :: vs, h => ⟨⟨h v (by simp), zrH w L H I v⟩, qw8 w L H I vs fun x hx => h x (by simp [hx])⟩
theorem zxZ (w : World) (L : Loc) (H : List (Nat × Blk)) (I : Nat → Nat → Prop) (v : Value) : VR w L H I v (zx0 v) := by
  unfold zx0
  split
  · rename_i cs
    split
    · rename_i h
      exact ⟨cs, rfl, qw8 w L H I cs.toList fun v hv => by
        have := Array.all_eq_true_iff_forall_mem.1 h v (by simpa using hv); exact this⟩
    · trivial
  · exact zrH w L H I v
def St.ev (st : St) : Operand → V
  | .tmp t => (st.tm.lookup t).getD (.c .any)
  | .const v => zx0 v
  | .global _ => .c .any
  | .func f => .c (.t (.fn f))
theorem SimD.ev {cx : Cx} {L : Loc} {I : Nat → Nat → Prop} {st : St} {a : Act} {w : World} (h : SimD cx L I st a w) (x : Operand) : VR w L st.hp I (a.eval x) (st.ev x) := by
  cases x with
  | tmp t =>
    show VR w L st.hp I (a.tmps.getD t undef) ((st.tm.lookup t).getD (.c .any))
    cases hl : st.tm.lookup t with
    | none => trivial
    | some v => exact (h.tm t v hl).1
  | const v => exact zxZ ..
  | global g => trivial
  | func f => exact .fn f
def qe2 (P : Program) (cx : Cx) (o : Oper) (st : St) (v : V) : Prop :=
  ∀ L I a w, SimD cx L I st a w → ∃ val, (execOp a.eval o).run P w = .ok (.value val) w ∧ VR w L st.hp I val v
section
variable {P : Program} {cx : Cx} {o : Oper} {st : St}
theorem zwH {x : Operand} {v : V} (ho : o.op = .move x) (hx : st.ev x = v) : qe2 P cx o st v := by
  intro L I a w h
  exact ⟨a.eval x, by simp [execOp, ho], hx ▸ h.ev x⟩
theorem zuR {x : Operand} {v : V} (ho : o.op = .assign x) (hx : st.ev x = v) : qe2 P cx o st v := by
  intro L I a w h
  exact ⟨a.eval x, by simp [execOp, ho], hx ▸ h.ev x⟩
theorem qjE {k : IntKind} {n : Int} {x : Operand} {L I a w} (h : SimD cx L I st a w) (hx : st.ev x = .c (.t (.int k n))) : a.eval x = .int k n := by
  have := h.ev x
  rw [hx] at this
  exact Rep.int_inv this
theorem q7V {b : Bool} {x : Operand} {L I a w} (h : SimD cx L I st a w) (hx : st.ev x = .c (.t (.bool b))) : a.eval x = .bool b := by
  have := h.ev x
  rw [hx] at this
  exact Rep.bool_inv this
theorem zlR {c x y : Operand} {b : Bool} {v : V} (ho : o.op = .pick c x y) (hc : st.ev c = .c (.t (.bool b))) (hv : st.ev (if b then x else y) = v) : qe2 P cx o st v := by
  intro L I a w h
  refine ⟨a.eval (if b then x else y), ?_, hv ▸ h.ev _⟩
  simp only [execOp, ho, q7V h hc]
  cases b <;> simp [asBool]
theorem zxP {c x y : Operand} {b p q : Bool} (ho : o.op = .pick c x y) (hc : st.ev c = .c (.t (.bool b))) (hx : b = true → st.ev x = .c (.t (.bool p)))
    (hy : b = false → st.ev y = .c (.t (.bool q))) : qe2 P cx o st (.c (.t (.bool (if b then p else q)))) := by
  cases b
  · exact zlR (b := false) ho hc (hy rfl)
  · exact zlR (b := true) ho hc (hx rfl)
theorem y_add {T T' : TypeId} {x y : Operand} {k : IntKind} {m n : Int} (ho : o.op = .binOp .add T x y T') (hx : st.ev x = .c (.t (.int k m))) (hy : st.ev y = .c (.t (.int k n))) :
    qe2 P cx o st (.c (.t (.int k (k.wrap (m + n))))) := by
  intro L I a w h
  exact ⟨_, by simp [execOp, ho, qjE h hx, qjE h hy, eqGuard, binOp, Op.intArith], .int _ _⟩
theorem y_sub {T T' : TypeId} {x y : Operand} {k : IntKind} {m n : Int} (ho : o.op = .binOp .sub T x y T') (hx : st.ev x = .c (.t (.int k m))) (hy : st.ev y = .c (.t (.int k n))) :
    qe2 P cx o st (.c (.t (.int k (k.wrap (m - n))))) := by
  intro L I a w h
  exact ⟨_, by simp [execOp, ho, qjE h hx, qjE h hy, eqGuard, binOp, Op.intArith], .int _ _⟩
theorem y_mul {T T' : TypeId} {x y : Operand} {k : IntKind} {m n : Int} (ho : o.op = .binOp .mul T x y T') (hx : st.ev x = .c (.t (.int k m))) (hy : st.ev y = .c (.t (.int k n))) :
    qe2 P cx o st (.c (.t (.int k (k.wrap (m * n))))) := by
  intro L I a w h
  exact ⟨_, by simp [execOp, ho, qjE h hx, qjE h hy, eqGuard, binOp, Op.intArith], .int _ _⟩
theorem y_quo {T T' : TypeId} {x y : Operand} {k : IntKind} {m n : Int} (ho : o.op = .binOp .quo T x y T') (hx : st.ev x = .c (.t (.int k m))) (hy : st.ev y = .c (.t (.int k n))) (hn : n ≠ 0) :
    qe2 P cx o st (.c (.t (.int k (k.wrap (m.tdiv n))))) := by
  intro L I a w h
  exact ⟨_, by simp [execOp, ho, qjE h hx, qjE h hy, eqGuard, binOp, Op.intDiv, hn], .int _ _⟩
theorem y_rem {T T' : TypeId} {x y : Operand} {k : IntKind} {m n : Int} (ho : o.op = .binOp .rem T x y T') (hx : st.ev x = .c (.t (.int k m))) (hy : st.ev y = .c (.t (.int k n))) (hn : n ≠ 0) :
    qe2 P cx o st (.c (.t (.int k (m.tmod n)))) := by
  intro L I a w h
  exact ⟨_, by simp [execOp, ho, qjE h hx, qjE h hy, eqGuard, binOp, Op.intDiv, hn], .int _ _⟩
theorem zqF {T T' : TypeId} {x y : Operand} {k : IntKind} {m n : Int} {op : BinOp} (ho : o.op = .binOp op T x y T')
    (hop : op = .and ∨ op = .or ∨ op = .xor ∨ op = .andNot) (hx : st.ev x = .c (.t (.int k m))) (hy : st.ev y = .c (.t (.int k n))) :
    qe2 P cx o st (.c (.t (.int k (bits op k m n)))) := by
  intro L I a w h
  rcases hop with rfl | rfl | rfl | rfl <;>
    exact ⟨_, by simp [execOp, ho, qjE h hx, qjE h hy, eqGuard, binOp, intBits_and, intBits_or, intBits_xor, intBits_andNot], .int _ _⟩
def qi3 (k : IntKind) (x : Int) (n : Int) : Int := k.wrap (x * 2 ^ (min n.toNat k.bits))
def qdG (k : IntKind) (x : Int) (n : Int) : Int := x.fdiv (2 ^ (min n.toNat k.bits))
theorem y_shl {T T' : TypeId} {x y : Operand} {k k' : IntKind} {m n : Int} (ho : o.op = .binOp .shl T x y T') (hx : st.ev x = .c (.t (.int k m))) (hy : st.ev y = .c (.t (.int k' n))) (hn : 0 ≤ n) :
    qe2 P cx o st (.c (.t (.int k (qi3 k m n)))) := by
  intro L I a w h
  have : ¬ n < 0 := by omega
  exact ⟨_, by simp [execOp, ho, qjE h hx, qjE h hy, eqGuard, binOp, Op.shift, this]; rfl, .int _ _⟩
theorem y_shr {T T' : TypeId} {x y : Operand} {k k' : IntKind} {m n : Int} (ho : o.op = .binOp .shr T x y T') (hx : st.ev x = .c (.t (.int k m))) (hy : st.ev y = .c (.t (.int k' n))) (hn : 0 ≤ n) :
    qe2 P cx o st (.c (.t (.int k (qdG k m n)))) := by
  intro L I a w h
  have : ¬ n < 0 := by omega
  exact ⟨_, by simp [execOp, ho, qjE h hx, qjE h hy, eqGuard, binOp, Op.shift, this]; rfl, .int _ _⟩
def cmpOp (op : BinOp) (x y : Int) : Bool :=
  match op with
  | .eql => decide (x = y)
  | .neq => !decide (x = y)
  | .lss => decide (x < y)
  | .leq => decide (x ≤ y)
  | .gtr => decide (y < x)
  | _ => decide (y ≤ x)
theorem zrQ {T T' : TypeId} {x y : Operand} {k : IntKind} {m n : Int} {op : BinOp} (ho : o.op = .binOp op T x y T')
    (hop : op = .eql ∨ op = .neq ∨ op = .lss ∨ op = .leq ∨ op = .gtr ∨ op = .geq) (hx : st.ev x = .c (.t (.int k m))) (hy : st.ev y = .c (.t (.int k n))) :
    qe2 P cx o st (.c (.t (.bool (cmpOp op m n)))) := by
  intro L I a w h
  rcases hop with rfl | rfl | rfl | rfl | rfl | rfl <;>
    refine ⟨_, ?_, .bool _⟩ <;> simp [execOp, ho, qjE h hx, qjE h hy, eqGuard, binOp, Op.intCmp, cmpOp]
  · by_cases e : m = n <;> simp [e]
  · by_cases e : m = n <;> simp [e]
theorem y_eqB {T T' : TypeId} {x y : Operand} {p q : Bool} (ho : o.op = .binOp .eql T x y T') (hu : P.underlying T = some .bool) (hx : st.ev x = .c (.t (.bool p))) (hy : st.ev y = .c (.t (.bool q))) :
    qe2 P cx o st (.c (.t (.bool (p == q)))) := by
  intro L I a w h
  exact ⟨_, by simp [execOp, ho, q7V h hx, q7V h hy, eqGuard, run_eql_bool (P := P) w T p q hu], .bool _⟩
theorem y_neB {T T' : TypeId} {x y : Operand} {p q : Bool} (ho : o.op = .binOp .neq T x y T') (hu : P.underlying T = some .bool) (hx : st.ev x = .c (.t (.bool p))) (hy : st.ev y = .c (.t (.bool q))) :
    qe2 P cx o st (.c (.t (.bool (!(p == q))))) := by
  intro L I a w h
  exact ⟨_, by simp [execOp, ho, q7V h hx, q7V h hy, eqGuard, run_neq_bool (P := P) w T p q hu], .bool _⟩
theorem y_not {T : TypeId} {x : Operand} {b : Bool} (ho : o.op = .unOp .not T x) (hx : st.ev x = .c (.t (.bool b))) : qe2 P cx o st (.c (.t (.bool (!b)))) := by
  intro L I a w h
  exact ⟨_, by simp [execOp, ho, q7V h hx, Op.unary], .bool _⟩
theorem y_neg {T : TypeId} {x : Operand} {k : IntKind} {n : Int} (ho : o.op = .unOp .neg T x) (hx : st.ev x = .c (.t (.int k n))) : qe2 P cx o st (.c (.t (.int k (k.wrap (0 - n))))) := by
  intro L I a w h
  exact ⟨_, by simp [execOp, ho, qjE h hx, Op.unary, Op.intArith], .int _ _⟩
theorem y_xorU {T : TypeId} {x : Operand} {k : IntKind} {n : Int} (ho : o.op = .unOp .xor T x) (hx : st.ev x = .c (.t (.int k n))) :
    qe2 P cx o st (.c (.t (.int k (bits .xor k (if k.signed then -1 else k.max) n)))) := by
  intro L I a w h
  exact ⟨_, by simp [execOp, ho, qjE h hx, Op.unary, intBits_xor], .int _ _⟩
theorem y_conv {S T : TypeId} {x : Operand} {k k' : IntKind} {n : Int} (ho : o.op = .convert S T x) (hs : (P.underlying S).isSome = true) (ht : P.underlying T = some (.int k'))
    (hx : st.ev x = .c (.t (.int k n))) : qe2 P cx o st (.c (.t (.int k' (k'.wrap n)))) := by
  intro L I a w h
  exact ⟨_, by simp [execOp, ho, qjE h hx, run_convert_int (P := P) w S T k n hs, ht, Program.intKind], .int _ _⟩
end
open Go.RowKit (Below)
def qvV (P : Program) (s : TypeId) (f : Nat) : Option Nat :=
  match P.underlying s with
  | some (.struct fs) => match fs[f]? with
    | some fd => match P.info? fd.type with
      | some i => if i.size = 0 then none else some fd.offset
      | none => none
    | none => none
  | _ => none
def qjW (P : Program) (t : TypeId) : Option Nat :=
  match P.underlying t with
  | some (.slice e) => (P.info? e).map (·.size)
  | _ => none
def zaS (P : Program) (t : TypeId) : Option (Nat × Nat) :=
  match P.underlying t with
  | some (.array n e) => (P.info? e).map fun i => (n, i.size)
  | _ => none
def qpC (P : Program) (t : TypeId) : Option (Bool × Nat) :=
  match P.underlying t, P.info? t with
  | some (.struct _), some i | some (.array _ _), some i => some (true, i.size)
  | some _, some _ => some (false, 1)
  | _, _ => none
theorem qtE (b o n : Nat) : (⟨b, o, none⟩ : Addr).add n = ⟨b, o + n, none⟩ := by unfold Addr.add; split <;> simp_all
theorem q2O {P : Program} {t : TypeId} {b : Bool} {n : Nat} (h : qpC P t = some (b, n)) (w : World) : (isAgg t).run P w = .ok b w := by
  unfold qpC at h
  cases hu : P.underlying t with
  | none => simp [hu] at h
  | some d =>
    unfold isAgg
    rw [Sem.run_bind, run_underlying hu w]
    cases d <;> cases hi : P.info? t <;> simp_all
theorem qlG {P : Program} {t : TypeId} {i : TypeInfo} (h : P.info? t = some i) (w : World) : (sizeOf t).run P w = .ok i.size w := by
  simp [sizeOf, typeInfo, h]
theorem ziI {P : Program} {t : TypeId} {n : Nat} (h : qpC P t = some (true, n)) : ∃ i, P.info? t = some i ∧ i.size = n := by
  unfold qpC at h
  cases hu : P.underlying t with
  | none => simp [hu] at h
  | some d => cases d <;> cases hi : P.info? t <;> simp_all
theorem qzV {P : Program} {t : TypeId} {n : Nat} (h : qpC P t = some (false, n)) (w : World) (a : Addr) (v : Value) (hc : w.cell? a = some v) :
    (Instr.loadAt t (.pointer (some a))).run P w = .ok v w := by
  simp [Instr.loadAt, Instr.sureAddr, loadVar, q2O h w, hc]
theorem qzW {P : Program} {t : TypeId} {n : Nat} (h : qpC P t = some (true, n)) (w : World) (b o : Nat) (vs : List Value) (hl : vs.length = n)
    (hc : ∀ j v, vs[j]? = some v → w.cell? ⟨b, o + j, none⟩ = some v) :
    (Instr.loadAt t (.pointer (some ⟨b, o, none⟩))).run P w = .ok (.agg vs.toArray) w := by
  obtain ⟨i, hi, hn⟩ := ziI h
  have hcells : (loadCells ⟨b, o, none⟩ vs.length).run P w = .ok vs.toArray w :=
    run_loadCells_list (P := P) w ⟨b, o, none⟩ vs fun j v hv => by rw [qtE]; exact hc j v hv
  simp [Instr.loadAt, Instr.sureAddr, loadVar, q2O h w, qlG hi w, hn, ← hl, hcells]
section lists
variable {w : World} {L : Loc} {H : List (Nat × Blk)} {I : Nat → Nat → Prop}
theorem CRs.length : ∀ {vs : List Value} {xs : List C}, CRs w L H I vs xs → vs.length = xs.length
  | [], [], _ => rfl
  | _ :: _, _ :: _, h => by simp [CRs.length h.2]
  | [], _ :: _, h => h.elim
  | _ :: _, [], h => h.elim
theorem CRs.get : ∀ {vs : List Value} {xs : List C}, CRs w L H I vs xs → ∀ {k : Nat} {x : C}, xs[k]? = some x → ∃ v, vs[k]? = some v ∧ v.oneCell' = true ∧ CR w L H I v x
  | v :: vs, y :: ys, h, 0, x, hx => by
    simp at hx; subst hx
    exact ⟨v, rfl, h.1.1, h.1.2⟩
  | v :: vs, y :: ys, h, k + 1, x, hx => by simpa using CRs.get h.2 (k := k) (by simpa using hx)
  | [], _ :: _, h, _, _, _ => h.elim
  | _ :: _, [], h, _, _, _ => h.elim
  | [], [], _, _, _, hx => by simp at hx
theorem CRs.drop : ∀ {vs : List Value} {xs : List C}, CRs w L H I vs xs → ∀ n, CRs w L H I (vs.drop n) (xs.drop n)
  | _, _, h, 0 => by simpa using h
  | [], [], _, _ + 1 => by simp [CRs]
  | _ :: _, _ :: _, h, n + 1 => by simpa using CRs.drop h.2 n
  | [], _ :: _, h, _ => h.elim
  | _ :: _, [], h, _ => h.elim
theorem CRs.take : ∀ {vs : List Value} {xs : List C}, CRs w L H I vs xs → ∀ n, CRs w L H I (vs.take n) (xs.take n)
  | _, _, _, 0 => by simp [CRs]
  | [], [], _, _ + 1 => by simp [CRs]
  | _ :: _, _ :: _, h, n + 1 => by simpa [CRs] using ⟨h.1, CRs.take h.2 n⟩
  | [], _ :: _, h, _ => h.elim
  | _ :: _, [], h, _ => h.elim
theorem CRs.append : ∀ {vs us : List Value} {xs ys : List C}, CRs w L H I vs xs → CRs w L H I us ys → CRs w L H I (vs ++ us) (xs ++ ys)
  | [], _, [], _, _, h => h
  | _ :: _, _, _ :: _, _, h, h' => ⟨h.1, CRs.append h.2 h'⟩
  | [], _, _ :: _, _, h, _ => h.elim
  | _ :: _, _, [], _, h, _ => h.elim
theorem CRs.of_reps : ∀ (vs : List Value) (ts : List T), vs.length = ts.length → (∀ (j : Nat) v t, vs[j]? = some v → ts[j]? = some t → Rep w I v t) → CRs w L H I vs (ts.map .t)
  | [], [], _, _ => trivial
  | v :: vs, t :: ts, hl, h => by
    have h0 := h 0 v t rfl rfl
    exact ⟨⟨h0.one, h0⟩, CRs.of_reps vs ts (by simpa using hl) fun j v t hv ht => h (j + 1) v t hv ht⟩
  | [], _ :: _, hl, _ => by simp at hl
  | _ :: _, [], hl, _ => by simp at hl
theorem CRs.reps : ∀ {vs : List Value} {ts : List T}, CRs w L H I vs (ts.map .t) → ∀ {k : Nat} {t : T}, ts[k]? = some t → ∃ v, vs[k]? = some v ∧ Rep w I v t := by
  intro vs ts h k t ht
  obtain ⟨v, h1, _, h3⟩ := h.get (k := k) (x := .t t) (by simp [ht])
  exact ⟨v, h1, h3⟩
end lists
section
variable {P : Program} {cx : Cx} {o : Oper} {st : St}
theorem q6W {P : Program} {s f off : Nat} (hf : qvV P s f = some off) (w : World) (b k : Nat) :
    (Instr.fieldAt s (.pointer (some ⟨b, k, none⟩)) f).run P w = .ok (.pointer (some ⟨b, k + off, none⟩)) w := by
  unfold qvV at hf
  cases hu : P.underlying s with
  | none => simp [hu] at hf
  | some d =>
    cases d <;> simp only [hu] at hf <;> try cases hf
    rename_i fs
    cases hx : fs[f]? with
    | none => simp [hx] at hf
    | some fd =>
      simp only [hx] at hf
      cases hi : P.info? fd.type with
      | none => simp [hi] at hf
      | some i =>
        simp only [hi] at hf
        split at hf
        · cases hf
        · rename_i hne
          cases hf
          simp [Instr.fieldAt, run_underlying hu w, hx, Instr.sureAddr, fieldPlace, qlG hi w, hne, qtE]
theorem zpG {s : TypeId} {x : Operand} {f off j k : Nat} (ho : o.op = .fieldAddr s x f) (hf : qvV P s f = some off)
    (hx : st.ev x = .c (.ptr j k)) (hj : (st.hp.lookup j).isSome = true) : qe2 P cx o st (.c (.ptr j (k + off))) := by
  intro L I a w h
  have hv := h.ev x
  rw [hx] at hv
  refine ⟨.pointer (some ⟨L.m j, k + off, none⟩), ?_, fun _ => rfl⟩
  simp [execOp, ho, (hv hj : a.eval x = _), q6W hf]
theorem znS {s : TypeId} {x : Operand} {f off j i k e sz : Nat} {es : List (List T)} {fz : Nat} (ho : o.op = .fieldAddr s x f) (hf : qvV P s f = some off)
    (hx : st.ev x = .c (.rptr j i k)) (hj : st.hp.lookup j = some (.row e sz es fz)) : qe2 P cx o st (.c (.rptr j i (k + off))) := by
  intro L I a w h
  have hv := h.ev x
  rw [hx] at hv
  obtain ⟨h1, h2⟩ := hv e sz es fz hj
  refine ⟨.pointer (some ⟨L.m j, i * sz + k + off, none⟩), ?_, ?_⟩
  · simp [execOp, ho, h2, q6W hf]
  · intro e' sz' es' fz' hj'
    rw [hj] at hj'; cases hj'
    exact ⟨h1, by rw [Nat.add_assoc]⟩
theorem znT {s : TypeId} {x : Operand} {f off k : Nat} {el : List T} (ho : o.op = .fieldAddr s x f) (hf : qvV P s f = some off)
    (hx : st.ev x = .c (.ep el k)) : qe2 P cx o st (.c (.ep el (k + off))) := by
  intro L I a w h
  have hv := h.ev x
  rw [hx] at hv
  obtain ⟨b, o', h1, h2⟩ := hv
  refine ⟨.pointer (some ⟨b, o' + k + off, none⟩), ?_, b, o', by rw [Nat.add_assoc], h2⟩
  simp [execOp, ho, h1, q6W hf]
theorem quF {P : Program} {t sz : Nat} (h : qjW P t = some sz) : ∃ e i, P.underlying t = some (.slice e) ∧ P.info? e = some i ∧ i.size = sz := by
  unfold qjW at h
  cases hu : P.underlying t with
  | none => simp [hu] at h
  | some d =>
    cases d <;> simp only [hu] at h <;> try cases h
    rename_i e
    cases hi : P.info? e with
    | none => simp [hi] at h
    | some i => simp [hi] at h; exact ⟨e, i, rfl, hi, h⟩
theorem zmE {P : Program} {t n sz : Nat} (h : zaS P t = some (n, sz)) : ∃ e i, P.underlying t = some (.array n e) ∧ P.info? e = some i ∧ i.size = sz := by
  unfold zaS at h
  cases hu : P.underlying t with
  | none => simp [hu] at h
  | some d =>
    cases d <;> simp only [hu] at h <;> try cases h
    rename_i m e
    cases hi : P.info? e with
    | none => simp [hi] at h
    | some i => simp [hi] at h; obtain ⟨rfl, rfl⟩ := h; exact ⟨e, i, rfl, hi, rfl⟩
theorem q5J {P : Program} {t sz : Nat} (ht : qjW P t = some sz) (w : World) (b off len cap : Nat) (k : IntKind) (i : Int) (h0 : 0 ≤ i) (h1 : i < len) :
    (Instr.indexAt t (.slice (some ⟨b, off, none⟩) len cap) (.int k i)).run P w = .ok (.pointer (some ⟨b, off + i.toNat * sz, none⟩)) w := by
  obtain ⟨e, inf, hu, hi, rfl⟩ := quF ht
  simp [Instr.indexAt, asIntOf, run_underlying hu w, h0, h1, qlG hi w, qtE]
theorem q2P {P : Program} {t n sz : Nat} (ht : zaS P t = some (n, sz)) (w : World) (b off : Nat) (k : IntKind) (i : Int) (h0 : 0 ≤ i) (h1 : i < n) :
    (Instr.indexAt t (.pointer (some ⟨b, off, none⟩)) (.int k i)).run P w = .ok (.pointer (some ⟨b, off + i.toNat * sz, none⟩)) w := by
  obtain ⟨e, inf, hu, hi, rfl⟩ := zmE ht
  simp [Instr.indexAt, asIntOf, run_underlying hu w, Instr.sureAddr, h0, h1, qlG hi w, qtE]
theorem zxT {t : TypeId} {x ix : Operand} {j off len e sz : Nat} {es : List (List T)} {fz : Nat} {k : IntKind} {i : Int} (ho : o.op = .indexAddr t x ix) (ht : qjW P t = some sz)
    (hx : st.ev x = .c (.row j off len)) (hj : st.hp.lookup j = some (.row e sz es fz)) (hi : st.ev ix = .c (.t (.int k i))) (h0 : 0 ≤ i) (h1 : i < len) :
    qe2 P cx o st (.c (.rptr j (off + i.toNat) 0)) := by
  intro L I a w h
  have hv := h.ev x
  rw [hx] at hv
  obtain ⟨g1, g2⟩ := hv e sz es fz hj
  refine ⟨.pointer (some ⟨L.m j, off * sz + i.toNat * sz, none⟩), ?_, ?_⟩
  · simp [execOp, ho, g2, qjE h hi, q5J ht w _ _ _ _ k i h0 h1]
  · intro e' sz' es' fz' hj'
    rw [hj] at hj'; cases hj'
    exact ⟨by omega, by rw [Nat.add_mul]; rfl⟩
theorem zqD {t : TypeId} {x ix : Operand} {sz : Nat} {es : List (List T)} {k : IntKind} {i : Int} {el : List T} (ho : o.op = .indexAddr t x ix) (ht : qjW P t = some sz)
    (hx : st.ev x = .c (.t (.sl sz es))) (hi : st.ev ix = .c (.t (.int k i))) (h0 : 0 ≤ i) (he : es[i.toNat]? = some el) :
    qe2 P cx o st (.c (.ep el 0)) := by
  intro L I a w h
  have hv := h.ev x
  rw [hx] at hv
  have h1 : i.toNat < es.length := (List.getElem?_eq_some_iff.1 he).1
  have hv' : Rep w I (a.eval x) (.sl sz es) := hv
  generalize hg : a.eval x = v at hv'
  cases hv' with
  | nil => simp at h1
  | emp => simp at h1
  | sl b off len cap _ _ cs ts hlen hcap hsz hts hI hcell hrep =>
    refine ⟨.pointer (some ⟨b, off + i.toNat * sz, none⟩), ?_, b, off + i.toNat * sz, rfl, fun q t hq => ?_⟩
    · simp [execOp, ho, hg, qjE h hi, q5J ht w _ _ _ _ k i h0 (by omega : i < len)]
    · have hk : q < sz := by
        have := (List.getElem?_eq_some_iff.1 hq).1
        rw [hsz el (List.mem_of_getElem? he)] at this
        exact this
      have h2 := hts i.toNat q el he hk
      rw [hq] at h2
      injection h2 with h2
      subst h2
      exact ⟨hI i.toNat q (by omega) hk, cs i.toNat q, hcell i.toNat q (by omega) hk, hrep i.toNat q (by omega) hk⟩
theorem zqE {t : TypeId} {x ix : Operand} {j q n sz : Nat} {k : IntKind} {i : Int} (ho : o.op = .indexAddr t x ix) (ht : zaS P t = some (n, sz))
    (hx : st.ev x = .c (.ptr j q)) (hj : (st.hp.lookup j).isSome = true) (hi : st.ev ix = .c (.t (.int k i))) (h0 : 0 ≤ i) (h1 : i < n) :
    qe2 P cx o st (.c (.ptr j (q + i.toNat * sz))) := by
  intro L I a w h
  have hv := h.ev x
  rw [hx] at hv
  refine ⟨.pointer (some ⟨L.m j, q + i.toNat * sz, none⟩), ?_, fun _ => rfl⟩
  simp [execOp, ho, (hv hj : a.eval x = _), qjE h hi, q2P ht w _ _ k i h0 h1]
theorem znQ {t : TypeId} {x ix : Operand} {j r q n sz e sz' : Nat} {es : List (List T)} {fz : Nat} {k : IntKind} {i : Int} (ho : o.op = .indexAddr t x ix) (ht : zaS P t = some (n, sz))
    (hx : st.ev x = .c (.rptr j r q)) (hj : st.hp.lookup j = some (.row e sz' es fz)) (hi : st.ev ix = .c (.t (.int k i))) (h0 : 0 ≤ i) (h1 : i < n) :
    qe2 P cx o st (.c (.rptr j r (q + i.toNat * sz))) := by
  intro L I a w h
  have hv := h.ev x
  rw [hx] at hv
  obtain ⟨g1, g2⟩ := hv e sz' es fz hj
  refine ⟨.pointer (some ⟨L.m j, r * sz' + q + i.toNat * sz, none⟩), ?_, ?_⟩
  · simp [execOp, ho, g2, qjE h hi, q2P ht w _ _ k i h0 h1]
  · intro e'' sz'' es'' fz'' hj'
    rw [hj] at hj'; cases hj'
    exact ⟨g1, by rw [Nat.add_assoc]⟩
theorem znR {t : TypeId} {x ix : Operand} {q n sz : Nat} {el : List T} {k : IntKind} {i : Int} (ho : o.op = .indexAddr t x ix) (ht : zaS P t = some (n, sz))
    (hx : st.ev x = .c (.ep el q)) (hi : st.ev ix = .c (.t (.int k i))) (h0 : 0 ≤ i) (h1 : i < n) :
    qe2 P cx o st (.c (.ep el (q + i.toNat * sz))) := by
  intro L I a w h
  have hv := h.ev x
  rw [hx] at hv
  obtain ⟨b, o', g1, g2⟩ := hv
  refine ⟨.pointer (some ⟨b, o' + q + i.toNat * sz, none⟩), ?_, b, o', by rw [Nat.add_assoc], g2⟩
  simp [execOp, ho, g1, qjE h hi, q2P ht w _ _ k i h0 h1]
theorem qyC {w : World} {g j : Nat} {c : Array Value} {t : TypeId} {fr : Nat × Nat} (hg : w.heap[g]? = some (.cells c t fr)) : w.cell? ⟨g, j, none⟩ = c[j]? := cell_of_row w g j c t fr hg
theorem zwI {t : TypeId} {x : Operand} {j k n : Nat} {cs : List C} {c : C} (ho : o.op = .load t x) (ht : qpC P t = some (false, n))
    (hx : st.ev x = .c (.ptr j k)) (hj : st.hp.lookup j = some (.var cs)) (hc : cs[k]? = some c) : qe2 P cx o st (.c c) := by
  intro L I a w h
  have hv := h.ev x
  rw [hx] at hv
  obtain ⟨_, _, arr, ty, hg, hcs⟩ := h.hp j _ hj
  obtain ⟨v, h1, _, h3⟩ := hcs.get hc
  refine ⟨v, ?_, h3⟩
  have hcell : w.cell? ⟨L.m j, k, none⟩ = some v := by rw [qyC hg]; simpa using h1
  simp [execOp, ho, (hv (by rw [hj]; rfl) : a.eval x = _), qzV ht w _ v hcell]
theorem zxS {t : TypeId} {x : Operand} {j k n : Nat} {cs ds : List C} (ho : o.op = .load t x) (ht : qpC P t = some (true, n))
    (hx : st.ev x = .c (.ptr j k)) (hj : st.hp.lookup j = some (.var cs)) (hc : (cs.drop k).take n = ds) (hn : ds.length = n) : qe2 P cx o st (.agg ds) := by
  intro L I a w h
  have hv := h.ev x
  rw [hx] at hv
  obtain ⟨_, _, arr, ty, hg, hcs⟩ := h.hp j _ hj
  have hd := (hcs.drop k).take n
  rw [hc] at hd
  refine ⟨.agg ((arr.toList.drop k).take n).toArray, ?_, _, rfl, by simpa using hd⟩
  have hl := hd.length
  rw [execOp, ho]
  simp only [(hv (by rw [hj]; rfl) : a.eval x = _)]
  rw [Sem.run_bind, qzW ht w (L.m j) k _ (by rw [hl]; exact hn) (fun i v hi => by
    rw [qyC hg]
    rw [List.getElem?_take] at hi
    split at hi
    · simpa [List.getElem?_drop] using hi
    · cases hi)]
  rfl
theorem zxQ {t : TypeId} {x : Operand} {j i k n e sz : Nat} {es : List (List T)} {fz : Nat} {el : List T} {y : T} (ho : o.op = .load t x) (ht : qpC P t = some (false, n))
    (hx : st.ev x = .c (.rptr j i k)) (hj : st.hp.lookup j = some (.row e sz es fz)) (he : es[i]? = some el) (hy : el[k]? = some y) : qe2 P cx o st (.c (.t y)) := by
  intro L I a w h
  have hv := h.ev x
  rw [hx] at hv
  obtain ⟨g1, g2⟩ := hv e sz es fz hj
  obtain ⟨_, _, _, _, _, _, arr, hg, hsz, hcs⟩ := h.hp j _ hj
  obtain ⟨v, h1, h3⟩ := hcs i k el y he hy
  refine ⟨v, ?_, h3⟩
  have hcell : w.cell? ⟨L.m j, i * sz + k, none⟩ = some v := by rw [qyC hg]; exact h1
  simp [execOp, ho, g2, qzV ht w _ v hcell]
theorem zuP {t : TypeId} {x : Operand} {j i k n e sz : Nat} {es : List (List T)} {fz : Nat} {el ys : List T} (ho : o.op = .load t x) (ht : qpC P t = some (true, n))
    (hx : st.ev x = .c (.rptr j i k)) (hj : st.hp.lookup j = some (.row e sz es fz)) (he : es[i]? = some el) (hy : (el.drop k).take n = ys) (hn : ys.length = n) : qe2 P cx o st (.agg (ys.map .t)) := by
  intro L I a w h
  have hv := h.ev x
  rw [hx] at hv
  obtain ⟨g1, g2⟩ := hv e sz es fz hj
  obtain ⟨_, _, _, _, _, _, arr, hg, hsz, hcs⟩ := h.hp j _ hj
  have hval : ∀ q, q < n → ∃ v t, ys[q]? = some t ∧ arr[i * sz + k + q]? = some v ∧ Rep w I v t := by
    intro q hq
    obtain ⟨y, h1⟩ : ∃ y, ys[q]? = some y := ⟨_, List.getElem?_eq_getElem (by omega)⟩
    have h2 : el[k + q]? = some y := by
      rw [← hy, List.getElem?_take, if_pos hq, List.getElem?_drop] at h1
      exact h1
    obtain ⟨v, h3, h4⟩ := hcs i (k + q) el _ he h2
    exact ⟨v, _, h1, by rw [Nat.add_assoc]; exact h3, h4⟩
  let vs := (List.range n).map fun q => arr.getD (i * sz + k + q) undef
  have hvs : ∀ q, q < n → ∃ v t, ys[q]? = some t ∧ vs[q]? = some v ∧ arr[i * sz + k + q]? = some v ∧ Rep w I v t := by
    intro q hq
    obtain ⟨v, t, h1, h2, h3⟩ := hval q hq
    exact ⟨v, t, h1, by simp [vs, hq, h2], h2, h3⟩
  have hlen : vs.length = n := by simp [vs]
  refine ⟨.agg vs.toArray, ?_, _, rfl, ?_⟩
  · rw [execOp, ho]
    simp only [g2]
    rw [Sem.run_bind, qzW ht w (L.m j) (i * sz + k) vs hlen (fun q v hq => by
      have hlt : q < n := by rw [← hlen]; exact (List.getElem?_eq_some_iff.1 hq).1
      obtain ⟨v', t', _, h2, h3, _⟩ := hvs q hlt
      rw [hq] at h2; cases h2
      rw [qyC hg]; exact h3)]
    rfl
  · simp only []
    refine CRs.of_reps vs ys (by omega) fun q v t hv ht => ?_
    have hlt : q < n := by rw [← hlen]; exact (List.getElem?_eq_some_iff.1 hv).1
    obtain ⟨v', t', h1, h2, _, h4⟩ := hvs q hlt
    rw [hv] at h2; cases h2; rw [ht] at h1; cases h1
    exact h4
theorem zxR {t : TypeId} {x : Operand} {k n : Nat} {el : List T} {y : T} (ho : o.op = .load t x) (ht : qpC P t = some (false, n))
    (hx : st.ev x = .c (.ep el k)) (hy : el[k]? = some y) : qe2 P cx o st (.c (.t y)) := by
  intro L I a w h
  have hv := h.ev x
  rw [hx] at hv
  obtain ⟨b, o', g1, g2⟩ := hv
  obtain ⟨_, v, h1, h2⟩ := g2 k y hy
  exact ⟨v, by simp [execOp, ho, g1, qzV ht w _ v h1], h2⟩
theorem zuQ {t : TypeId} {x : Operand} {k n : Nat} {el ys : List T} (ho : o.op = .load t x) (ht : qpC P t = some (true, n))
    (hx : st.ev x = .c (.ep el k)) (hy : (el.drop k).take n = ys) (hn : ys.length = n) : qe2 P cx o st (.agg (ys.map .t)) := by
  intro L I a w h
  have hv := h.ev x
  rw [hx] at hv
  obtain ⟨b, o', g1, g2⟩ := hv
  have hval : ∀ q, q < n → ∃ v t, ys[q]? = some t ∧ w.cell? ⟨b, o' + k + q, none⟩ = some v ∧ Rep w I v t := by
    intro q hq
    obtain ⟨y, h1⟩ : ∃ y, ys[q]? = some y := ⟨_, List.getElem?_eq_getElem (by omega)⟩
    have h2 : el[k + q]? = some y := by
      rw [← hy, List.getElem?_take, if_pos hq, List.getElem?_drop] at h1
      exact h1
    obtain ⟨_, v, h3, h4⟩ := g2 (k + q) y h2
    exact ⟨v, _, h1, by rw [Nat.add_assoc]; exact h3, h4⟩
  let vs := (List.range n).map fun q => (w.cell? ⟨b, o' + k + q, none⟩).getD undef
  have hvs : ∀ q, q < n → ∃ v t, ys[q]? = some t ∧ vs[q]? = some v ∧ w.cell? ⟨b, o' + k + q, none⟩ = some v ∧ Rep w I v t := by
    intro q hq
    obtain ⟨v, t, h1, h2, h3⟩ := hval q hq
    exact ⟨v, t, h1, by simp [vs, hq, h2], h2, h3⟩
  have hlen : vs.length = n := by simp [vs]
  refine ⟨.agg vs.toArray, ?_, _, rfl, ?_⟩
  · rw [execOp, ho]
    simp only [g1]
    rw [Sem.run_bind, qzW ht w b (o' + k) vs hlen (fun q v hq => by
      have hlt : q < n := by rw [← hlen]; exact (List.getElem?_eq_some_iff.1 hq).1
      obtain ⟨v', t', _, h2, h3, _⟩ := hvs q hlt
      rw [hq] at h2; cases h2
      exact h3)]
    rfl
  · simp only []
    refine CRs.of_reps vs ys (by omega) fun q v t hv ht => ?_
    have hlt : q < n := by rw [← hlen]; exact (List.getElem?_eq_some_iff.1 hv).1
    obtain ⟨v', t', h1, h2, _, h4⟩ := hvs q hlt
    rw [hv] at h2; cases h2; rw [ht] at h1; cases h1
    exact h4
end
open Go.RowKit (Below)
def bnd (o : Option Value) (d r : Nat) : Prop :=
  match o with
  | none => r = d
  | some v => ∃ k, v = .int k (r : Int)
theorem zgK {f : Operand → Value} {d : Nat} : bnd (Option.map f none) d d := rfl
theorem qpL {P : Program} {t sz : Nat} (ht : qjW P t = some sz) (w : World) (a : Option Addr) (len cap l h m : Nat) (lo hi mx : Option Value)
    (hlo : bnd lo 0 l) (hhi : bnd hi len h) (hmx : bnd mx cap m) (hs : hi.isSome = true ∨ mx = none) (h1 : l ≤ h) (h2 : h ≤ m) (h3 : m ≤ cap) :
    (Instr.sliceAt t (.slice a len cap) lo hi mx).run P w = .ok (sliced a l h m sz) w := by
  obtain ⟨e, inf, hu, hi', rfl⟩ := quF ht
  have hb : (Instr.sliceBounds true len cap lo hi mx).run P w = .ok (l, h, m) w := by
    cases mx with
    | none =>
      simp only [bnd] at hmx; subst hmx
      cases hi with
      | none =>
        simp only [bnd] at hhi; subst hhi
        cases lo with
        | none => simp only [bnd] at hlo; subst hlo; simp [Instr.sliceBounds]
        | some v => obtain ⟨k, rfl⟩ := hlo; simp [Instr.sliceBounds, run_sliceBound, (by omega : l ≤ h)]
      | some u =>
        obtain ⟨k, rfl⟩ := hhi
        cases lo with
        | none => simp only [bnd] at hlo; subst hlo; simp [Instr.sliceBounds, run_sliceBound, h2]
        | some v => obtain ⟨k', rfl⟩ := hlo; simp [Instr.sliceBounds, run_sliceBound, h1, h2]
    | some z =>
      obtain ⟨km, rfl⟩ := hmx
      cases hi with
      | none => simp at hs
      | some u =>
        obtain ⟨k, rfl⟩ := hhi
        cases lo with
        | none => simp only [bnd] at hlo; subst hlo; simp [Instr.sliceBounds, run_sliceBound, h2, h3]
        | some v => obtain ⟨k', rfl⟩ := hlo; simp [Instr.sliceBounds, run_sliceBound, h1, h2, h3]
  simp [Instr.sliceAt, run_underlying hu, Instr.slice, hb, qlG hi', sliced]
def evB (st : St) (o : Option Operand) (d r : Nat) : Prop :=
  match o with
  | none => r = d
  | some x => ∃ k n, st.ev x = .c (.t (.int k n)) ∧ 0 ≤ n ∧ r = n.toNat
theorem zq9 {st : St} {d : Nat} {x : Operand} {k : IntKind} {n : Int} (hx : st.ev x = .c (.t (.int k n))) (h0 : 0 ≤ n) : evB st (some x) d n.toNat := ⟨k, n, hx, h0, rfl⟩
section
variable {P : Program} {cx : Cx} {o : Oper} {st : St}
theorem qx2 {L I a w} (h : SimD cx L I st a w) {x : Option Operand} {d r : Nat} (hx : evB st x d r) : bnd (x.map a.eval) d r := by
  cases x with
  | none => exact hx
  | some x => obtain ⟨k, n, h1, h2, rfl⟩ := hx; exact ⟨k, by rw [qjE h h1]; congr 1; omega⟩
theorem Rep.take {w : World} {I : Nat → Nat → Prop} {a : Option Addr} {len cap sz l h m : Nat} {es : List (List T)} (hr : Rep w I (.slice a len cap) (.sl sz es))
    (h1 : l ≤ h) (h2 : h ≤ es.length) (h3 : h ≤ m) (h4 : m ≤ cap) : Rep w I (sliced a l h m sz) (.sl sz ((es.take h).drop l)) := by
  cases hr with
  | nil => simp [sliced]; simp at h2; have : l = 0 := by omega
           subst this; subst h2; simp at h4; subst h4; exact .nil sz
  | emp a => simp [sliced]; simp at h2; have : l = 0 := by omega
             subst this; subst h2; simp at h4; subst h4; exact .emp a sz
  | sl b off _ _ _ _ cs ts hlen hcap hsz hts hI hcell hrep =>
    have hd : ((es.take h).drop l).length = h - l := by simp; omega
    by_cases hml : m = l
    · have : h = l := by omega
      subst this; subst hml
      have he : (es.take m).drop m = [] := by simp
      rw [he]
      simp only [sliced, if_true, Nat.sub_self]
      exact .sl b off 0 0 sz [] cs ts rfl (Nat.le_refl _) (by simp) (by simp) (by simp) (by simp) (by simp)
    · simp only [sliced, hml, if_false, Option.map_some, qtE]
      have hg : ∀ i e, ((es.take h).drop l)[i]? = some e → es[l + i]? = some e := by
        intro i e he
        rw [List.getElem?_drop, List.getElem?_take] at he
        split at he
        · exact he
        · cases he
      have hoff : ∀ i k, off + l * sz + i * sz + k = off + (l + i) * sz + k := by intro i k; rw [Nat.add_mul]; omega
      refine .sl b (off + l * sz) (h - l) (m - l) sz _ (fun i k => cs (l + i) k) (fun i k => ts (l + i) k) hd (by omega) (fun e he => hsz e (List.mem_of_mem_take (List.mem_of_mem_drop he))) ?_ ?_ ?_ ?_
      · intro i k e he hk; exact hts (l + i) k e (hg i e he) hk
      · intro i k hi hk; rw [hoff]; exact hI (l + i) k (by omega) hk
      · intro i k hi hk; rw [hoff]; exact hcell (l + i) k (by omega) hk
      · intro i k hi hk; exact hrep (l + i) k (by omega) hk
theorem Rep.slice_inv {w : World} {I : Nat → Nat → Prop} {v : Value} {sz : Nat} {es : List (List T)} (h : Rep w I v (.sl sz es)) :
    ∃ a cap, v = .slice a es.length cap ∧ es.length ≤ cap ∧ True := by
  cases h with
  | nil => exact ⟨none, 0, rfl, Nat.le_refl _, trivial⟩
  | emp a => exact ⟨some a, 0, rfl, Nat.le_refl _, trivial⟩
  | sl b off len cap _ _ cs ts hlen hcap => subst hlen; exact ⟨_, cap, rfl, hcap, trivial⟩
theorem zqC {t : TypeId} {x : Operand} {lo hi mx : Option Operand} {sz l h : Nat} {m : Nat} {es : List (List T)} (ho : o.op = .slice t x lo hi mx) (ht : qjW P t = some sz)
    (hx : st.ev x = .c (.t (.sl sz es))) (hlo : evB st lo 0 l) (hhi : evB st hi es.length h) (hmx : mx = none ∨ hi.isSome = true ∧ mx.isSome = true ∧ evB st mx 0 m ∧ h ≤ m ∧ m ≤ es.length) (h1 : l ≤ h) (h2 : h ≤ es.length) :
    qe2 P cx o st (.c (.t (.sl sz ((es.take h).drop l)))) := by
  intro L I a w hs
  have hv := hs.ev x
  rw [hx] at hv
  obtain ⟨ad, cap, hg, hcap, _⟩ := Rep.slice_inv hv
  rw [hg] at hv
  rcases hmx with rfl | ⟨hh, hms, hm, h3, h4⟩
  · refine ⟨sliced ad l h cap sz, ?_, Rep.take hv h1 h2 (by omega) (Nat.le_refl _)⟩
    rw [execOp, ho]
    simp only [hg]
    rw [Sem.run_bind, qpL ht w ad es.length cap l h cap _ _ _ (qx2 hs hlo) (qx2 hs hhi) zgK (.inr rfl) h1 (by omega) (Nat.le_refl _)]
    rfl
  · have hm' : evB st mx cap m := by
      cases mx with
      | none => simp at hms
      | some z => exact hm
    refine ⟨sliced ad l h m sz, ?_, Rep.take hv h1 h2 h3 (by omega)⟩
    rw [execOp, ho]
    simp only [hg]
    rw [Sem.run_bind, qpL ht w ad es.length cap l h m _ _ _ (qx2 hs hlo) (qx2 hs hhi) (qx2 hs hm') (.inl (by simpa using hh)) h1 h3 (by omega)]
    rfl
theorem zuO {t : TypeId} {x y z : Operand} {k k' : IntKind} {sz : Nat} {es : List (List T)} (ho : o.op = .slice t x none (some y) (some z)) (ht : qjW P t = some sz)
    (hx : st.ev x = .c (.t (.sl sz es))) (hy : st.ev y = .c (.t (.int k 0))) (hz : st.ev z = .c (.t (.int k' 0))) : qe2 P cx o st (.c .nil) := by
  intro L I a w hs
  have hv := hs.ev x
  rw [hx] at hv
  obtain ⟨ad, cap, hg, hcap, _⟩ := Rep.slice_inv hv
  refine ⟨sliced ad 0 0 0 sz, ?_, ad, by simp [sliced]⟩
  rw [execOp, ho]
  simp only [hg]
  rw [Sem.run_bind, qpL ht w ad es.length cap 0 0 0 _ _ _ zgK (qx2 hs (zq9 (n := 0) hy (by omega))) (qx2 hs (zq9 (n := 0) hz (by omega))) (.inl rfl) (by omega) (by omega) (by omega)]
  rfl
theorem zuN {t : TypeId} {x : Operand} {lo hi : Option Operand} {sz : Nat} (ho : o.op = .slice t x lo hi none) (ht : qjW P t = some sz)
    (hx : st.ev x = .c .nil) (hlo : evB st lo 0 0) (hhi : evB st hi 0 0) : qe2 P cx o st (.c .nil) := by
  intro L I a w hs
  have hv := hs.ev x
  rw [hx] at hv
  obtain ⟨ad, hg⟩ := hv
  refine ⟨sliced ad 0 0 0 sz, ?_, ad, by simp [sliced]⟩
  rw [execOp, ho]
  simp only [hg]
  rw [Sem.run_bind, qpL ht w ad 0 0 0 0 0 _ _ _ (qx2 hs hlo) (qx2 hs hhi) zgK (.inr rfl) (by omega) (by omega) (by omega)]
  rfl
theorem zuM {t : TypeId} {x : Operand} {lo hi : Option Operand} {j off len e sz l h : Nat} {es : List (List T)} {fz : Nat} (ho : o.op = .slice t x lo hi none) (ht : qjW P t = some sz)
    (hx : st.ev x = .c (.row j off len)) (hj : st.hp.lookup j = some (.row e sz es fz)) (hlo : evB st lo 0 l) (hhi : evB st hi len h) (h1 : l ≤ h) (h2 : h ≤ len) (h3 : l = 0 ∨ l < len) :
    qe2 P cx o st (.c (.row j (off + l) (h - l))) := by
  intro L I a w hs
  have hv := hs.ev x
  rw [hx] at hv
  obtain ⟨g1, g2⟩ := hv e sz es fz hj
  obtain ⟨_, _, hcp, _⟩ := hs.hp j _ hj
  refine ⟨sliced (some ⟨L.m j, off * sz, none⟩) l h (L.cp j - off) sz, ?_, ?_⟩
  · rw [execOp, ho]
    simp only [g2]
    rw [Sem.run_bind, qpL ht w _ len (L.cp j - off) l h _ _ _ _ (qx2 hs hlo) (qx2 hs hhi) zgK (.inr rfl) h1 (by omega) (Nat.le_refl _)]
    rfl
  · intro e' sz' es' fz' hj'
    rw [hj] at hj'; cases hj'
    refine ⟨by omega, ?_⟩
    unfold sliced
    have ha : (if L.cp j - off = l then some (⟨L.m j, off * sz, none⟩ : Addr) else (some (⟨L.m j, off * sz, none⟩ : Addr)).map (·.add (l * sz))) = some ⟨L.m j, (off + l) * sz, none⟩ := by
      simp only [Option.map_some, qtE]
      rcases h3 with rfl | h3
      · simp
      · rw [if_neg (by omega), Nat.add_mul]
    rw [ha, Nat.sub_sub]
theorem zsB {t : TypeId} {x : Operand} {lo hi mx : Option Operand} {j off len e sz l h m : Nat} {es : List (List T)} {fz : Nat} (ho : o.op = .slice t x lo hi mx) (ht : qjW P t = some sz)
    (hx : st.ev x = .c (.row j off len)) (hj : st.hp.lookup j = some (.row e sz es fz)) (hlo : evB st lo 0 l) (hhi : evB st hi len h) (hs' : hi.isSome = true) (hms : mx.isSome = true) (hmx : evB st mx 0 m)
    (h1 : l ≤ h) (h2 : h ≤ m) (h4 : m ≤ len) (h3 : l = 0 ∨ l < m) :
    qe2 P cx o st (.c (.clip j (off + l) (h - l))) := by
  intro L I a w hs
  have hv := hs.ev x
  rw [hx] at hv
  obtain ⟨g1, g2⟩ := hv e sz es fz hj
  obtain ⟨_, _, hcp, _⟩ := hs.hp j _ hj
  have hm' : evB st mx (L.cp j - off) m := by cases mx with
    | none => simp at hms
    | some z => exact hmx
  refine ⟨sliced (some ⟨L.m j, off * sz, none⟩) l h m sz, ?_, ?_⟩
  · rw [execOp, ho]
    simp only [g2]
    rw [Sem.run_bind, qpL ht w _ len (L.cp j - off) l h m _ _ _ (qx2 hs hlo) (qx2 hs hhi) (qx2 hs hm') (.inl (by simpa using hs')) h1 h2 (by omega)]
    rfl
  · intro e' sz' es' fz' hj'
    rw [hj] at hj'; cases hj'
    refine ⟨by omega, m - l, by omega, ?_⟩
    unfold sliced
    have ha : (if m = l then some (⟨L.m j, off * sz, none⟩ : Addr) else (some (⟨L.m j, off * sz, none⟩ : Addr)).map (·.add (l * sz))) = some ⟨L.m j, (off + l) * sz, none⟩ := by
      simp only [Option.map_some, qtE]
      rcases h3 with rfl | h3
      · simp
      · rw [if_neg (by omega), Nat.add_mul]
    rw [ha]
theorem qlH {P : Program} {b : Builtin} {args : Array Operand} {tys : Array TypeId} {v : Value} {w : World} {a : Act} (ho : o.op = .call { callee := .builtin b, args := args, argTypes := tys })
    (hb : (builtin b tys o.type (args.map fun | .const _ => true | _ => false) (args.map a.eval)).run P w = .ok (.value v) w) : (execOp a.eval o).run P w = .ok (.value v) w := by
  simp only [execOp, ho, resolve, Sem.run_bind, Sem.run_pure, Result.andThen_ok, invoke]
  exact hb
theorem zwJ {t : TypeId} {x : Operand} {sz sz' : Nat} {es : List (List T)} (ho : o.op = .call { callee := .builtin .len, args := #[x], argTypes := #[t] }) (ht : qjW P t = some sz')
    (hx : st.ev x = .c (.t (.sl sz es))) : qe2 P cx o st (.c (.t (.int .i64 es.length))) := by
  intro L I a w hs
  have hv := hs.ev x
  rw [hx] at hv
  obtain ⟨ad, cap, hg, hcap, _⟩ := Rep.slice_inv hv
  obtain ⟨e, inf, hu, hi', rfl⟩ := quF ht
  exact ⟨_, qlH ho (by simp [builtin, hg, Builtin.len_, run_underlying hu, goInt]), .int _ _⟩
theorem y_lenR {t : TypeId} {x : Operand} {j off len e sz sz' : Nat} {es : List (List T)} {fz : Nat} (ho : o.op = .call { callee := .builtin .len, args := #[x], argTypes := #[t] }) (ht : qjW P t = some sz')
    (hx : st.ev x = .c (.row j off len)) (hj : st.hp.lookup j = some (.row e sz es fz)) : qe2 P cx o st (.c (.t (.int .i64 len))) := by
  intro L I a w hs
  have hv := hs.ev x
  rw [hx] at hv
  obtain ⟨g1, g2⟩ := hv e sz es fz hj
  obtain ⟨e, inf, hu, hi', rfl⟩ := quF ht
  exact ⟨_, qlH ho (by simp [builtin, g2, Builtin.len_, run_underlying hu, goInt]), .int _ _⟩
theorem y_lenN {t : TypeId} {x : Operand} {sz' : Nat} (ho : o.op = .call { callee := .builtin .len, args := #[x], argTypes := #[t] }) (ht : qjW P t = some sz')
    (hx : st.ev x = .c .nil) : qe2 P cx o st (.c (.t (.int .i64 0))) := by
  intro L I a w hs
  have hv := hs.ev x
  rw [hx] at hv
  obtain ⟨ad, hg⟩ := hv
  obtain ⟨e, inf, hu, hi', rfl⟩ := quF ht
  exact ⟨_, qlH ho (by simp [builtin, hg, Builtin.len_, run_underlying hu, goInt]), .int _ _⟩
theorem y_lenS {t : TypeId} {x : Operand} {s : ByteArray} (ho : o.op = .call { callee := .builtin .len, args := #[x], argTypes := #[t] }) (ht : P.underlying t = some .string)
    (hx : st.ev x = .c (.t (.str s))) : qe2 P cx o st (.c (.t (.int .i64 s.size))) := by
  intro L I a w hs
  have hv := hs.ev x
  rw [hx] at hv
  have hg := Rep.str_inv hv
  exact ⟨_, qlH ho (by simp [builtin, hg, Builtin.len_, run_underlying ht, goInt]), .int _ _⟩
theorem y_max2 {t t' : TypeId} {x y : Operand} {k : IntKind} {m n : Int} (ho : o.op = .call { callee := .builtin .max, args := #[x, y], argTypes := #[t, t'] })
    (hx : st.ev x = .c (.t (.int k m))) (hy : st.ev y = .c (.t (.int k n))) : qe2 P cx o st (.c (.t (.int k (max m n)))) := by
  intro L I a w h
  refine ⟨_, qlH ho (by simp [builtin, qjE h hx, qjE h hy, run_max_int2]; rfl), ?_⟩
  have : (if n > m then n else m) = max m n := by split <;> omega
  rw [this]; exact .int _ _
theorem y_min2 {t t' : TypeId} {x y : Operand} {k : IntKind} {m n : Int} (ho : o.op = .call { callee := .builtin .min, args := #[x, y], argTypes := #[t, t'] })
    (hx : st.ev x = .c (.t (.int k m))) (hy : st.ev y = .c (.t (.int k n))) : qe2 P cx o st (.c (.t (.int k (min m n)))) := by
  intro L I a w h
  refine ⟨_, qlH ho (by simp [builtin, qjE h hx, qjE h hy, run_min_int2]; rfl), ?_⟩
  have : (if n < m then n else m) = min m n := by split <;> omega
  rw [this]; exact .int _ _
def uV : Bool × List C → V
  | (true, xs) => .agg xs
  | (false, x :: _) => .c x
  | (false, []) => .c .any
theorem uV_R {w : World} {L : Loc} {H : List (Nat × Blk)} {I : Nat → Nat → Prop} {v : Value} : ∀ {x : Bool × List C}, UR w L H I v x → VR w L H I v (uV x)
  | (true, _), h => h
  | (false, _ :: _), ⟨x, h1, h2⟩ => by cases h1; exact h2
  | (false, []), _ => trivial
theorem URs.get {w : World} {L : Loc} {H : List (Nat × Blk)} {I : Nat → Nat → Prop} : ∀ {vs : List Value} {xs : List (Bool × List C)}, URs w L H I vs xs → ∀ {k : Nat} {x : Bool × List C}, xs[k]? = some x → ∃ v, vs[k]? = some v ∧ UR w L H I v x
  | v :: vs, y :: ys, h, 0, x, hx => by
    simp at hx; subst hx
    exact ⟨v, rfl, h.1⟩
  | v :: vs, y :: ys, h, k + 1, x, hx => by simpa using URs.get h.2 (k := k) (by simpa using hx)
  | [], _ :: _, h, _, _, _ => h.elim
  | _ :: _, [], h, _, _, _ => h.elim
  | [], [], _, _, _, hx => by simp at hx
theorem zsD {x : Operand} {n : Nat} {xs : List (Bool × List C)} {u : Bool × List C} (ho : o.op = .extract x n) (hx : st.ev x = .tup xs) (hn : xs[n]? = some u) : qe2 P cx o st (uV u) := by
  intro L I a w hs
  have hv := hs.ev x
  rw [hx] at hv
  obtain ⟨cs, hg, hcs⟩ := hv
  obtain ⟨v, h1, h2⟩ := hcs.get hn
  refine ⟨v, ?_, uV_R h2⟩
  have h1' : cs[n]? = some v := by simpa using h1
  simp [execOp, ho, hg, Instr.extract, h1']
def C.oneB (hp : List (Nat × Blk)) : C → Bool
  | .t _ => true
  | .nil => true
  | .row j _ _ | .clip j _ _ | .rptr j _ _ => match hp.lookup j with | some (.row ..) => true | _ => false
  | .ptr j _ => (hp.lookup j).isSome
  | .asl j _ _ => (hp.lookup j).isSome
  | .ep .. => true
  | .fn .. => true
  | .any => false
  | .yd _ => false
theorem C.oneB_R {w : World} {L : Loc} {H : List (Nat × Blk)} {I : Nat → Nat → Prop} {v : Value} {x : C} (h : CR w L H I v x) (hb : x.oneB H = true) : v.oneCell' = true := by
  cases x with
  | t x => exact Rep.one h
  | nil => obtain ⟨a, rfl⟩ := h; rfl
  | row j off len =>
    simp only [C.oneB] at hb
    split at hb
    · rename_i hj; obtain ⟨_, rfl⟩ := h _ _ _ _ hj; rfl
    · cases hb
  | clip j off len =>
    simp only [C.oneB] at hb
    split at hb
    · rename_i hj; obtain ⟨_, _, _, rfl⟩ := h _ _ _ _ hj; rfl
    · cases hb
  | rptr j off len =>
    simp only [C.oneB] at hb
    split at hb
    · rename_i hj; obtain ⟨_, rfl⟩ := h _ _ _ _ hj; rfl
    · cases hb
  | ptr j k => have := h hb; subst this; rfl
  | asl j k n => have := h hb; subst this; rfl
  | ep el k => obtain ⟨b, off, rfl, _⟩ := h; rfl
  | fn f caps => obtain ⟨cs, rfl, _⟩ := h; rfl
  | any => cases hb
  | yd l => cases hb
def V.cellsL (hp : List (Nat × Blk)) : V → Option (List C)
  | .c x => if x.oneB hp then some [x] else none
  | .agg xs => some xs
  | .tup _ => none
theorem zs8 {v : Value} (h : v.oneCell' = true) : v.cells = #[v] := by cases v <;> first | rfl | simp [Value.oneCell'] at h
theorem V.cellsL_R {w : World} {L : Loc} {H : List (Nat × Blk)} {I : Nat → Nat → Prop} {v : Value} {x : V} {xs : List C} (h : VR w L H I v x) (hx : x.cellsL H = some xs) : CRs w L H I v.cells.toList xs := by
  cases x with
  | c x =>
    simp only [V.cellsL] at hx
    split at hx
    · rename_i hb
      cases hx
      have h1 := C.oneB_R h hb
      rw [zs8 h1]
      exact ⟨⟨h1, h⟩, trivial⟩
    · cases hx
  | agg xs =>
    simp only [V.cellsL] at hx; cases hx
    obtain ⟨cs, rfl, h2⟩ := h
    exact h2
  | tup _ => simp [V.cellsL] at hx
theorem CRs.set {w : World} {L : Loc} {H : List (Nat × Blk)} {I : Nat → Nat → Prop} : ∀ {vs : List Value} {xs : List C}, CRs w L H I vs xs → ∀ (n : Nat) {v : Value} {x : C}, v.oneCell' = true → CR w L H I v x → CRs w L H I (vs.set n v) (xs.set n x)
  | [], [], _, _, _, _, _, _ => trivial
  | _ :: _, _ :: _, h, 0, _, _, h1, h2 => ⟨⟨h1, h2⟩, h.2⟩
  | _ :: _, _ :: _, h, n + 1, _, _, h1, h2 => ⟨h.1, CRs.set h.2 n h1 h2⟩
  | [], _ :: _, h, _, _, _, _, _ => h.elim
  | _ :: _, [], h, _, _, _, _, _ => h.elim
def zrU (cs : List C) (off : Nat) : List C → List C
  | [] => cs
  | x :: xs => zrU (cs.set off x) (off + 1) xs
theorem zsX {w : World} {L : Loc} {H : List (Nat × Blk)} {I : Nat → Nat → Prop} (off : Nat) : ∀ (vs : List Value) (xs : List C) (n : Nat) (arr : Array Value) (cs : List C), CRs w L H I vs xs → CRs w L H I arr.toList cs →
    CRs w L H I ((vs.zipIdx n).foldl (fun a (c, j) => a.setIfInBounds (off + j) c) arr).toList (zrU cs (off + n) xs)
  | [], [], _, _, _, _, h => h
  | v :: vs, x :: xs, n, arr, cs, h, h' => by
    simp only [List.zipIdx_cons, List.foldl_cons, zrU]
    exact zsX off vs xs (n + 1) _ _ h.2 (by simpa using h'.set (off + n) h.1.1 h.1.2)
  | [], _ :: _, _, _, _, h, _ => h.elim
  | _ :: _, [], _, _, _, h, _ => h.elim
def znH (place : Nat → Option (Nat × Nat)) (cs : List C) : List (Nat × List C) → Option (List C)
  | [] => some cs
  | (i, xs) :: rest =>
    match place i with
    | none => none
    | some (off, size) => if xs.length ≠ size || off + xs.length > cs.length then none else znH place (zrU cs off xs) rest
def zuH (w : World) (L : Loc) (H : List (Nat × Blk)) (I : Nat → Nat → Prop) : List (Nat × Value) → List (Nat × List C) → Prop
  | [], [] => True
  | (i, v) :: vs, (k, x) :: xs => i = k ∧ CRs w L H I v.cells.toList x ∧ zuH w L H I vs xs
  | _, _ => False
theorem znG {w : World} {L : Loc} {H : List (Nat × Blk)} {I : Nat → Nat → Prop} (place : Nat → Option (Nat × Nat)) : ∀ (ps : List (Nat × Value)) (qs : List (Nat × List C)) (arr : Array Value) (cs ds : List C),
    zuH w L H I ps qs → CRs w L H I arr.toList cs → znH place cs qs = some ds → ∃ out, Instr.fill place arr ps = some out ∧ CRs w L H I out.toList ds
  | [], [], arr, cs, ds, _, h, hf => by cases hf; exact ⟨arr, rfl, h⟩
  | (i, v) :: ps, (k, x) :: qs, arr, cs, ds, hp, h, hf => by
    obtain ⟨rfl, hx, hr⟩ := hp
    simp only [znH] at hf
    cases hpl : place i with
    | none => simp [hpl] at hf
    | some os =>
      obtain ⟨off, size⟩ := os
      simp only [hpl] at hf
      split at hf
      · cases hf
      · rename_i hc
        have hlv : v.cells.size = x.length := by simpa using hx.length
        have hla : arr.size = cs.length := by simpa using h.length
        have hset := zsX off v.cells.toList x 0 arr cs hx h
        obtain ⟨out, h1, h2⟩ := znG place ps qs _ _ ds hr hset hf
        refine ⟨out, ?_, h2⟩
        simp only [Instr.fill, hpl]
        rw [if_neg (by simpa [hlv, hla] using hc), ← h1]
        congr 1
        rw [← Array.foldl_toList, Array.toList_zipIdx]
  | [], _ :: _, _, _, _, h, _, _ => h.elim
  | _ :: _, [], _, _, _, h, _, _ => h.elim
def ziJ (P : Program) (t : TypeId) : Option ((List (Nat × Nat)) × List C) :=
  match P.info? t, P.underlying t with
  | some it, some (.array n e) => match it.zero, P.info? e with
    | some z, some ie => if z.cells.all (·.oneCell') then some ((List.range n).map fun i => (i * ie.size, ie.size), z.cells.toList.map qpG) else none
    | _, _ => none
  | some it, some (.struct fields) => match it.zero, fields.toList.mapM (fun f => (P.info? f.type).map fun i => (f.offset, i.size)) with
    | some z, some places => if z.cells.all (·.oneCell') then some (places, z.cells.toList.map qpG) else none
    | _, _ => none
  | _, _ => none
def qtV (st : St) : List (Nat × Operand) → Option (List (Nat × List C))
  | [] => some []
  | (i, x) :: rest => match (st.ev x).cellsL st.hp, qtV st rest with
    | some xs, some r => some ((i, xs) :: r)
    | _, _ => none
theorem zjA {L I a w} (h : SimD cx L I st a w) : ∀ (ps : List (Nat × Operand)) (qs : List (Nat × List C)), qtV st ps = some qs → zuH w L st.hp I (ps.map fun (i, x) => (i, a.eval x)) qs
  | [], qs, hq => by cases hq; trivial
  | (i, x) :: rest, qs, hq => by
    simp only [qtV] at hq
    split at hq
    · rename_i xs r h1 h2
      cases hq
      exact ⟨rfl, V.cellsL_R (h.ev x) h1, zjA h rest r h2⟩
    · cases hq
theorem zoY {p q : Nat → Option (Nat × Nat)} (hpq : ∀ i x, p i = some x → q i = some x) : ∀ (ps : List (Nat × Value)) (arr out : Array Value), Instr.fill p arr ps = some out →
    Instr.fill q arr ps = some out
  | [], _, _, h => h
  | (i, v) :: ps, arr, out, h => by
    simp only [Instr.fill] at h ⊢
    cases hp : p i with
    | none => simp [hp] at h
    | some x =>
      obtain ⟨off, size⟩ := x
      rw [hp] at h
      rw [hpq i _ hp]
      simp only at h ⊢
      split at h
      · cases h
      · rename_i hc
        rw [if_neg hc]
        exact zoY hpq ps _ _ h
theorem zxU {t : TypeId} {parts : Array (Nat × Operand)} {pl : List (Nat × Nat)} {zs ds : List C} {qs : List (Nat × List C)} (ho : o.op = .build t parts)
    (hl : ziJ P t = some (pl, zs)) (hq : qtV st parts.toList = some qs) (hf : znH (pl[·]?) zs qs = some ds) : qe2 P cx o st (.agg ds) := by
  intro L I a w h
  have hp := zjA h _ _ hq
  unfold ziJ at hl
  cases hit : P.info? t with
  | none => simp [hit] at hl
  | some it =>
    cases hu : P.underlying t with
    | none => simp [hit, hu] at hl
    | some d =>
      cases hz : it.zero with
      | none => cases d <;> simp [hit, hu, hz] at hl
      | some z =>
        have hparts : (parts.map fun (i, x) => (i, a.eval x)).toList = parts.toList.map fun (i, x) => (i, a.eval x) := by simp
        cases d <;> try (simp [hit, hu] at hl; done)
        case array n e =>
          cases hie : P.info? e with
          | none => simp [hit, hu, hz, hie] at hl
          | some ie =>
            simp only [hit, hu, hz, hie] at hl
            split at hl
            · rename_i hall
              cases hl
              have hzs : CRs w L st.hp I z.cells.toList (z.cells.toList.map qpG) := qw8 w L st.hp I _ fun v hv => by
                have := Array.all_eq_true_iff_forall_mem.1 hall v (by simpa using hv); exact this
              obtain ⟨out, h1, h2⟩ := znG _ _ _ z.cells _ ds hp hzs hf
              have h1' := zoY (q := fun i => some (i * ie.size, ie.size)) (fun i x hx => by
                simp only [List.getElem?_map] at hx
                cases hr : (List.range n)[i]? with
                | none => simp [hr] at hx
                | some y =>
                  have : y = i := by
                    have := List.getElem?_eq_some_iff.1 hr
                    obtain ⟨_, h2⟩ := this
                    simpa using h2.symm
                  subst this
                  simpa [hr] using hx) _ _ _ h1
              refine ⟨.agg out, ?_, out, rfl, h2⟩
              have hb : P.built t (parts.map fun (i, x) => (i, a.eval x)).toList = some out := by simp only [Program.built, hit, hu, hz, hie, hparts]; exact h1'
              simp only [execOp, ho, Sem.run_bind, run_build w t _ out hb, Result.andThen_ok]
              rfl
            · cases hl
        case struct fields =>
          cases hpl : fields.toList.mapM (fun f => (P.info? f.type).map fun i => (f.offset, i.size)) with
          | none => simp [hit, hu, hz, hpl] at hl
          | some places =>
            simp only [hit, hu, hz, hpl] at hl
            split at hl
            · rename_i hall
              cases hl
              have hzs : CRs w L st.hp I z.cells.toList (z.cells.toList.map qpG) := qw8 w L st.hp I _ fun v hv => by
                have := Array.all_eq_true_iff_forall_mem.1 hall v (by simpa using hv); exact this
              obtain ⟨out, h1, h2⟩ := znG _ _ _ z.cells _ ds hp hzs hf
              refine ⟨.agg out, ?_, out, rfl, h2⟩
              have hb : P.built t (parts.map fun (i, x) => (i, a.eval x)).toList = some out := by
                simp only [Program.built, hit, hu, hz, hpl, hparts]
                rw [← h1]; congr 1; funext i; simp
              simp only [execOp, ho, Sem.run_bind, run_build w t _ out hb, Result.andThen_ok]
              rfl
            · cases hl
theorem zrN {f : FuncId} (ho : o.op = .makeFunc (.func f) #[] #[]) : qe2 P cx o st (.c (.t (.fn f))) := by
  intro L I a w h
  exact ⟨.func (.func f) #[] #[], by simp [execOp, ho, Instr.makeFunc], .fn f⟩
end
open Go.RowKit (Below)
def St.free (st : St) (j : Nat) : Bool :=
  st.tm.all (fun p => p.2.free (some j)) && st.hp.all (fun p => p.1 == j || p.2.free (some j)) && q2F (some j) st.ex
theorem zcK {β : Type} {t : Nat} {v : β} : ∀ {l : List (Nat × β)}, l.lookup t = some v → (t, v) ∈ l
  | [], h => by simp at h
  | (k, u) :: l, h => by
    rw [qcV] at h
    split at h
    · rename_i e; subst e; cases h; simp
    · exact List.mem_cons_of_mem _ (zcK h)
theorem St.free_tm {st : St} {j : Nat} (h : st.free j = true) {t : Nat} {v : V} (hl : st.tm.lookup t = some v) : v.free (some j) = true := by
  simp only [St.free, Bool.and_eq_true, List.all_eq_true] at h
  exact h.1.1 _ (zcK hl)
theorem St.free_hp {st : St} {j : Nat} (h : st.free j = true) {t : Nat} {b : Blk} (hl : st.hp.lookup t = some b) (hne : t ≠ j) : b.free (some j) = true := by
  simp only [St.free, Bool.and_eq_true, List.all_eq_true] at h
  have := h.1.2 _ (zcK hl)
  simpa [hne] using this
theorem St.free_ex {st : St} {j : Nat} (h : st.free j = true) : q2F (some j) st.ex = true := by
  simp only [St.free, Bool.and_eq_true] at h
  exact h.2
theorem BR.keep {w w' : World} {L L' : Loc} {H H' : List (Nat × Blk)} {I I' : Nat → Nat → Prop} {x? : Option Nat} (k : Keep x? w w' L L' H H' I I') {B j : Nat} {b : Blk} (h : BR w L H I B j b)
    (hf : b.free x? = true) (hb : w'.heap[L.m j]? = w.heap[L.m j]?) (hm : L'.m j = L.m j) (hc : L'.cp j = L.cp j) (hI : ∀ o, I' (L.m j) o → I (L.m j) o) : BR w' L' H' I' B j b := by
  cases b with
  | var cs =>
    obtain ⟨h1, h2, c, ty, h3, h4⟩ := h
    simp only [BR, hm]
    exact ⟨h1, fun o ho => h2 o (hI o ho), c, ty, by rw [hb]; exact h3, k.cs hf h4⟩
  | row e sz es fz =>
    obtain ⟨h1, h2, h3, h4, h5, h6, c, h7, h8, h9⟩ := h
    simp only [BR, hm, hc]
    refine ⟨h1, h2, h3, h4, h5, fun o ho => h6 o (hI o ho), c, by rw [hb]; exact h7, h8, fun i q x t hx ht => ?_⟩
    obtain ⟨v, g1, g2⟩ := h9 i q x t hx ht
    exact ⟨v, g1, k.rep g2⟩
theorem BR.lt {w : World} {L : Loc} {H : List (Nat × Blk)} {I : Nat → Nat → Prop} {B j : Nat} {b : Blk} (h : BR w L H I B j b) : B ≤ L.m j ∧ L.m j < w.heap.size := by
  cases b with
  | var cs => obtain ⟨h1, _, c, ty, h3, _⟩ := h; exact ⟨h1, (Array.getElem?_eq_some_iff.1 h3).1⟩
  | row e sz es fz => obtain ⟨h1, _, _, _, _, _, c, h7, _⟩ := h; exact ⟨h1, (Array.getElem?_eq_some_iff.1 h7).1⟩
section
variable {P : Program} {cx : Cx} {st : St} {L L' : Loc} {I I' : Nat → Nat → Prop} {a : Act} {w w' : World}
theorem SimD.step {x? : Option Nat} {hp' : List (Nat × Blk)} (h : SimD cx L I st a w) (k : Keep x? w w' L L' st.hp hp' I I') (hf : ∀ j, x? = some j → st.free j = true)
    (below : Below cx.w0.heap.size w w') (i1 : ∀ b o, I' b o → cx.I0 b o ∨ cx.w0.heap.size ≤ b) (ib : ∀ b o, I' b o → b < w'.heap.size)
    (inj : ∀ j j' b b', hp'.lookup j = some b → hp'.lookup j' = some b' → L'.m j = L'.m j' → j = j')
    (hp : ∀ j b, hp'.lookup j = some b → BR w' L' hp' I' cx.w0.heap.size j b) (ko : ∀ (D : Nat) (o : Obj), w.heap[D]? = some o → (∀ c t r, o ≠ .cells c t r) → w'.heap[D]? = some o) (hds : L'.ds = L.ds) : SimD cx L' I' { st with hp := hp' } a w' where
  below := h.below.trans below
  i0 := fun b o hb => k.imm b o (h.i0 b o hb)
  i1 := i1
  ib := ib
  inj := inj
  hp := hp
  tm := fun t v hl => by
    obtain ⟨h1, h2⟩ := h.tm t v hl
    refine ⟨k.v ?_ h1, h2⟩
    cases x? with
    | none => exact V.free_none v
    | some j => exact St.free_tm (hf j rfl) hl
  ex := by
    refine k.vs ?_ h.ex
    cases x? with
    | none => exact qgB _
    | some j => exact St.free_ex (st := st) (hf j rfl)
  defers := by rw [hds]; exact h.defers
  mks := by rw [hds]; exact ⟨h.mks.1, fun D hD => let ⟨h1, h2⟩ := h.mks.2 D hD; ⟨ko _ _ h1 (fun _ _ _ e => by cases e), h2⟩⟩
  kp := ⟨h.kp.1, fun p hp => let ⟨h1, h2⟩ := h.kp.2 p hp; ⟨ko _ _ h1 h2, h2⟩⟩
  size := h.size
def Loc.set (L : Loc) (j m c : Nat) : Loc := ⟨fun i => if i = j then m else L.m i, fun i => if i = j then c else L.cp i, L.ds⟩
def St.addB (st : St) (j : Nat) (b : Blk) : St := { st with hp := (j, b) :: st.hp }
theorem znB {o : Obj} {j m c : Nat} {b : Blk} (hib : ∀ b o, I b o → b < w.heap.size) : Keep (some j) w (w.alloc o) L (L.set j m c) st.hp ((j, b) :: st.hp) I I where
  imm := fun _ _ h => h
  cell := fun b' o' h => World.cell?_alloc_lt w o ⟨b', o', none⟩ (hib b' o' h)
  ptr := fun j' hne hs => by
    have : j' ≠ j := fun e => by subst e; simp at hne
    rw [qcV, if_neg this] at hs
    exact ⟨hs, by simp [Loc.set, this]⟩
  row := fun j' e sz es fz hne hl => by
    have : j' ≠ j := fun e => by subst e; simp at hne
    rw [qcV, if_neg this] at hl
    exact ⟨es, fz, hl, Nat.le_refl _, by simp [Loc.set, this]⟩
theorem SimD.add {arr : Array Value} {ty : TypeId} {j c : Nat} {b : Blk} (h : SimD cx L I st a w) (hf : st.free j = true)
    (hb : BR (w.alloc (.cells arr ty)) (L.set j w.heap.size c) ((j, b) :: st.hp) I cx.w0.heap.size j b) :
    SimD cx (L.set j w.heap.size c) I (st.addB j b) a (w.alloc (.cells arr ty)) := by
  have k := znB (L := L) (st := st) (o := .cells arr ty) (j := j) (m := w.heap.size) (c := c) (b := b) h.ib
  have hw : ∀ j' b', st.hp.lookup j' = some b' → cx.w0.heap.size ≤ L.m j' ∧ L.m j' < w.heap.size := fun j' b' hl => (h.hp j' b' hl).lt
  refine h.step k (fun j' e => by cases e; exact hf) ((Below.refl _ _).alloc (h.below.size) _) h.i1 (fun b o hb => by have := h.ib b o hb; simp; omega) ?_ ?_ (fun D o hD _ => (heap_alloc_old w _ (Array.getElem?_eq_some_iff.1 hD).1).trans hD) rfl
  · intro j1 j2 b1 b2 h1 h2 he
    rw [qcV] at h1 h2
    split at h1 <;> split at h2
    · rename_i e1 e2; rw [e1, e2]
    · rename_i e1 e2
      have := (hw j2 b2 h2).2
      simp [Loc.set, e1, e2] at he; omega
    · rename_i e1 e2
      have := (hw j1 b1 h1).2
      simp [Loc.set, e1, e2] at he; omega
    · rename_i e1 e2
      simp [Loc.set, e1, e2] at he
      exact h.inj j1 j2 b1 b2 h1 h2 he
  · intro j' b' hl
    rw [qcV] at hl
    split at hl
    · rename_i e; subst e; cases hl; exact hb
    · rename_i e
      refine BR.keep k (h.hp j' b' hl) (St.free_hp hf hl e) ?_ (by simp [Loc.set, e]) (by simp [Loc.set, e]) (fun o ho => ho)
      exact heap_alloc_old w _ (hw j' b' hl).2
theorem SimD.addVar {arr : Array Value} {ty : TypeId} {j : Nat} {cs : List C} (h : SimD cx L I st a w) (hf : st.free j = true) (hc : CRs w L st.hp I arr.toList cs) (hcf : qpF (some j) cs = true) :
    SimD cx (L.set j w.heap.size 0) I (st.addB j (.var cs)) a (w.alloc (.cells arr ty)) := by
  refine h.add hf ?_
  have k := znB (L := L) (st := st) (o := .cells arr ty) (j := j) (m := w.heap.size) (c := 0) (b := .var cs) h.ib
  refine ⟨by simpa [Loc.set] using h.below.size, ?_, arr, ty, ?_, k.cs hcf hc⟩
  · intro o ho
    have := h.ib _ _ ho
    simp [Loc.set] at this
  · simp only [Loc.set, if_true]; exact heap_alloc_new w _
theorem SimD.addRow {arr : Array Value} {e sz cap j : Nat} {es : List (List T)} (h : SimD cx L I st a w) (hf : st.free j = true) (hsz : 0 < sz) (hl : es.length ≤ cap) (hm : cap ≤ maxLen)
    (hes : ∀ x ∈ es, x.length = sz) (harr : arr.size = cap * sz) (hc : ∀ i k x t, es[i]? = some x → x[k]? = some t → ∃ v, arr[i * sz + k]? = some v ∧ Rep w I v t) :
    SimD cx (L.set j w.heap.size cap) I (st.addB j (.row e sz es 0)) a (w.alloc (.cells arr e)) := by
  refine h.add hf ?_
  have k := znB (L := L) (st := st) (o := .cells arr e) (j := j) (m := w.heap.size) (c := cap) (b := .row e sz es 0) h.ib
  refine ⟨by simpa [Loc.set] using h.below.size, hsz, by simpa [Loc.set] using hl, by simpa [Loc.set] using hm, hes, ?_, arr, ?_, by simpa [Loc.set] using harr, ?_⟩
  · intro o ho
    have := h.ib _ _ ho
    simp [Loc.set] at this
  · simp only [Loc.set, if_true]; exact heap_alloc_new w _
  · intro i q x t hx ht
    obtain ⟨v, g1, g2⟩ := hc i q x t hx ht
    exact ⟨v, g1, k.rep g2⟩
theorem SimD.write {arr arr' : Array Value} {ty : TypeId} {j : Nat} {b b' : Blk} (h : SimD cx L I st a w) (hj : st.hp.lookup j = some b) (hg : w.heap[L.m j]? = some (.cells arr ty (0, 0)))
    (hsame : ∀ e sz es fz, b' = .row e sz es fz → ∃ es₀ fz₀, b = .row e sz es₀ fz₀ ∧ es₀.length ≤ es.length)
    (hI : ∀ o, I (L.m j) o → arr'[o]? = arr[o]?)
    (hb : Keep none w (w.setRow (L.m j) arr') L L st.hp ((j, b') :: st.hp) I I → BR (w.setRow (L.m j) arr') L ((j, b') :: st.hp) I cx.w0.heap.size j b') :
    SimD cx L I (st.addB j b') a (w.setRow (L.m j) arr') := by
  have hlt := (h.hp j b hj).lt
  have k : Keep none w (w.setRow (L.m j) arr') L L st.hp ((j, b') :: st.hp) I I := by
    refine ⟨fun _ _ h => h, fun b o hbo => ?_, fun j' _ hs => ⟨?_, rfl⟩, fun j' e sz es fz _ hl => ?_⟩
    · by_cases e : b = L.m j
      · subst e
        rw [cell_setRow_same w _ _ arr arr' ty (0, 0) hg, cell_of_row w _ _ arr ty (0, 0) hg]
        exact hI o hbo
      · exact cell_setRow_other w _ _ _ e
    · rw [qcV] at hs
      split at hs
      · rename_i e; subst e; rw [hj]; rfl
      · exact hs
    · rw [qcV] at hl
      split at hl
      · rename_i e'; subst e'
        cases hl
        obtain ⟨es₀, fz₀, h1, h2⟩ := hsame _ _ _ _ rfl
        exact ⟨es₀, fz₀, by rw [hj, h1], h2, rfl⟩
      · exact ⟨es, fz, hl, Nat.le_refl _, rfl⟩
  refine h.step k (fun j' e => by cases e) ⟨rfl, rfl, rfl, by simp, fun q hq => setRow_other w _ q _ (by omega)⟩ h.i1 (fun b o hb => by simpa using h.ib b o hb) ?_ ?_ (fun D o hD hc => (setRow_other w _ D _ (fun e => by subst e; rw [hg] at hD; cases hD; exact hc _ _ _ rfl)).trans hD) rfl
  · intro j1 j2 b1 b2 h1 h2 he
    have f : ∀ j' b', ((j, b) :: st.hp).lookup j' = some b' → ∃ b'', st.hp.lookup j' = some b'' := by
      intro j' b' hl
      rw [qcV] at hl
      split at hl
      · rename_i e; subst e; exact ⟨_, hj⟩
      · exact ⟨_, hl⟩
    rw [qcV] at h1 h2
    split at h1 <;> split at h2
    · rename_i e1 e2; rw [e1, e2]
    · rename_i e1 e2; subst e1; exact h.inj _ _ _ _ hj h2 he
    · rename_i e1 e2; subst e2; exact h.inj _ _ _ _ h1 hj he
    · exact h.inj _ _ _ _ h1 h2 he
  · intro j' b'' hl
    rw [qcV] at hl
    split at hl
    · rename_i e; subst e; cases hl; exact hb k
    · rename_i e
      refine BR.keep k (h.hp j' b'' hl) (Blk.free_none _) ?_ rfl rfl (fun o ho => ho)
      exact setRow_other w _ _ _ (fun he => e (h.inj _ _ _ _ hl hj he))
end
def qdH {α : Type} (cs : List α) (k : Nat) (xs : List α) : List α := cs.take k ++ xs ++ cs.drop (k + xs.length)
theorem qyD {α : Type} (cs : List α) (k : Nat) (xs : List α) (hk : k + xs.length ≤ cs.length) (i : Nat) :
    (qdH cs k xs)[i]? = if k ≤ i ∧ i < k + xs.length then xs[i - k]? else cs[i]? := by
  unfold qdH
  rw [List.append_assoc, List.getElem?_append]
  have hl : (cs.take k).length = k := by simp; omega
  rw [hl]
  by_cases h1 : i < k
  · rw [if_pos h1, if_neg (by omega), List.getElem?_take, if_pos h1]
  · rw [if_neg h1, List.getElem?_append]
    by_cases h2 : i < k + xs.length
    · rw [if_pos (by omega), if_pos ⟨by omega, h2⟩]
    · rw [if_neg (by omega), if_neg (by omega), List.getElem?_drop]
      congr 1; omega
def OpOK (P : Program) (cx : Cx) (o : Oper) (st st' : St) : Prop :=
  (∀ t, o.dst = some t → t < cx.n) → ∀ a w, Sim cx st a w → ∀ (K : Act → World → Prop) (Q : Exit → Act → World → Prop), (∀ a' w', Sim cx st' a' w' → K a' w') → o.wp P a w K Q
section
variable {P : Program} {cx : Cx} {o : Oper} {st : St}
theorem ql9 {L I a w} {v : V} {val : Value} (h : SimD cx L I st a w) (hv : VR w L st.hp I val v) (hd : ∀ t, o.dst = some t → t < cx.n) : Sim cx (st.put? o.dst v) (a.put o.dst val) w := by
  cases hdst : o.dst with
  | none => exact ⟨L, I, h⟩
  | some t => exact ⟨L, I, h.put hv (hd t hdst)⟩
theorem zoN {v : V} (hy : qe2 P cx o st v) : OpOK P cx o st (st.put? o.dst v) := by
  intro hd a w hs K Q hK
  obtain ⟨L, I, h⟩ := hs
  obtain ⟨val, hrun, hv⟩ := hy L I a w h
  unfold Oper.wp
  rw [hrun]
  exact hK _ _ (ql9 h hv hd)
theorem zlQ {P : Program} {t : TypeId} {z : Value} (h : (P.info? t).bind (·.zero) = some z) (w : World) : (zeroValue t).run P w = .ok z w := by
  cases hi : P.info? t with
  | none => simp [hi] at h
  | some i => simp [hi] at h; simp [zeroValue, typeInfo, hi, h]
theorem zjO (j : Option Nat) (v : Value) : (qpG v).free j = true := by
  unfold qpG
  split <;> rfl
theorem zq0 {t : TypeId} {j : Nat} {z : Value} {zs : List C} (ho : o.op = .alloc t) (hd : o.dst = some j) (hz : (P.info? t).bind (·.zero) = some z)
    (hz1 : z.cells.all (·.oneCell') = true) (hzs : z.cells.toList.map qpG = zs) (hf : st.free j = true) : OpOK P cx o st ((st.addB j (.var zs)).put j (.c (.ptr j 0))) := by
  intro hd' a w hs K Q hK
  obtain ⟨L, I, h⟩ := hs
  have hr : CRs w L st.hp I z.cells.toList zs := hzs ▸ qw8 w L st.hp I _ fun v hv => by
    have := Array.all_eq_true_iff_forall_mem.1 hz1 v (by simpa using hv); exact this
  have hcf : qpF (some j) zs = true := by
    subst hzs
    generalize z.cells.toList = l
    induction l with
    | nil => rfl
    | cons v l ih =>
      simp only [List.map_cons, qpF, ih, Bool.and_true]
      exact zjO (some j) v
  have h2 := h.addVar (ty := t) hf hr hcf
  have hrun : (execOp a.eval o).run P w = .ok (.value (.pointer (some ⟨w.heap.size, 0, none⟩))) (w.alloc (.cells z.cells t)) := by
    simp [execOp, ho, Instr.alloc, zlQ hz, newVar, newRow]
  unfold Oper.wp
  rw [hrun]
  refine hK _ _ ?_
  have := ql9 (o := o) (v := .c (.ptr j 0)) (val := .pointer (some ⟨w.heap.size, 0, none⟩)) h2 (fun _ => by simp [Loc.set]) hd'
  rw [hd] at this ⊢
  exact this
theorem zw2 {t : TypeId} {j : Nat} {x : Operand} {xs : List C} (ho : o.op = .box t x) (hd : o.dst = some j) (hx : (st.ev x).cellsL st.hp = some xs) (hf : st.free j = true) (hxf : qpF (some j) xs = true) :
    OpOK P cx o st ((st.addB j (.var xs)).put j (.c (.ptr j 0))) := by
  intro hd' a w hs K Q hK
  obtain ⟨L, I, h⟩ := hs
  have hr := V.cellsL_R (h.ev x) hx
  have h2 := h.addVar (ty := t) hf hr hxf
  have hrun : (execOp a.eval o).run P w = .ok (.value (.pointer (some ⟨w.heap.size, 0, none⟩))) (w.alloc (.cells (a.eval x).cells t)) := by
    simp [execOp, ho, Instr.box, newVar, newRow]
  unfold Oper.wp
  rw [hrun]
  refine hK _ _ ?_
  have := ql9 (o := o) (v := .c (.ptr j 0)) (val := .pointer (some ⟨w.heap.size, 0, none⟩)) h2 (fun _ => by simp [Loc.set]) hd'
  rw [hd] at this ⊢
  exact this
theorem zdJ {P : Program} {t : TypeId} {n g k : Nat} {v : Value} {w : World} {arr : Array Value} {ty : TypeId} (hi : (P.info? t).map (·.size) = some n) (hn : v.cells.size = n)
    (hg : w.heap[g]? = some (.cells arr ty (0, 0))) (hk : k + n ≤ arr.size) (h1 : ∀ u ∈ v.cells.toList, u.oneCell' = true) :
    (Instr.storeAt t (.pointer (some ⟨g, k, none⟩)) v).run P w = .ok () (w.setRow g (qdH arr.toList k v.cells.toList).toArray) := by
  have hsz : (sizeOf t).run P w = .ok n w := by
    cases hq : P.info? t with
    | none => simp [hq] at hi
    | some i => simp [hq] at hi; simp [sizeOf, typeInfo, hq, hi]
  have hst := run_storeCells_at P g k ty v.cells.toList 0 arr w hg (by simpa [hn] using hk) h1
  simp only [Nat.add_zero] at hst
  simp [Instr.storeAt, Instr.sureAddr, storeVar, hsz, hn, hst, qdH]
theorem zm4 {t : TypeId} {p x : Operand} {j k n : Nat} {cs xs : List C} (ho : o.op = .store t p x) (hd : o.dst = none) (hp : st.ev p = .c (.ptr j k)) (hj : st.hp.lookup j = some (.var cs))
    (hx : (st.ev x).cellsL st.hp = some xs) (hn : xs.length = n) (hi : (P.info? t).map (·.size) = some n) (hk : k + n ≤ cs.length) :
    OpOK P cx o st (st.addB j (.var (qdH cs k xs))) := by
  intro _ a w hs K Q hK
  obtain ⟨L, I, h⟩ := hs
  have hr := V.cellsL_R (h.ev x) hx
  have hv := h.ev p
  rw [hp] at hv
  obtain ⟨hB, hnI, arr, ty, hg, hcs⟩ := h.hp j _ hj
  have hl : arr.size = cs.length := by simpa using hcs.length
  have hxl : (a.eval x).cells.size = n := by have := hr.length; simp at this; omega
  have hone : ∀ u ∈ (a.eval x).cells.toList, u.oneCell' = true := by
    intro u hu
    obtain ⟨i, hi'⟩ := List.mem_iff_getElem?.1 hu
    have hlt := (List.getElem?_eq_some_iff.1 hi').1
    obtain ⟨y, hy⟩ : ∃ y, xs[i]? = some y := ⟨_, List.getElem?_eq_getElem (by rw [← hr.length]; exact hlt)⟩
    obtain ⟨v, g1, g2, _⟩ := hr.get hy
    rw [hi'] at g1; cases g1; exact g2
  have hrun : (execOp a.eval o).run P w = .ok .skip (w.setRow (L.m j) (qdH arr.toList k (a.eval x).cells.toList).toArray) := by
    have hrs := zdJ (P := P) (k := k) hi hxl hg (by omega) hone
    simp only [execOp, ho, (hv (by rw [hj]; rfl) : a.eval p = _), Sem.run_bind, hrs, Result.andThen_ok]
    rfl
  unfold Oper.wp
  rw [hrun]
  refine hK _ _ ?_
  rw [hd]
  refine ⟨L, I, h.write hj hg (fun e sz es fz he => by cases he) (fun o ho => absurd ho (hnI o)) fun kk => ?_⟩
  refine ⟨hB, hnI, _, ty, setRow_heap w _ arr _ ty _ hg, ?_⟩
  have hc' := kk.cs (qpE _) hcs
  have hr' := kk.cs (qpE _) hr
  have hll : (a.eval x).cells.toList.length = xs.length := hr.length
  have hfin := CRs.append (CRs.append (hc'.take k) hr') (hc'.drop (k + xs.length))
  rw [← hll] at hfin
  have he2 : List.take k cs ++ xs ++ List.drop (k + (a.eval x).cells.toList.length) cs = qdH cs k xs := by rw [hll]; rfl
  rw [he2] at hfin
  exact hfin
def qrZ (h : Nat → Nat) (k : Nat) : List C → Option (List T)
  | [] => some []
  | .t x :: cs => (qrZ h (k + 1) cs).map (x :: ·)
  | .nil :: cs => (qrZ h (k + 1) cs).map (.sl (h k) [] :: ·)
  | _ => none
theorem CR.nil_T {w : World} {L : Loc} {H : List (Nat × Blk)} {I : Nat → Nat → Prop} {v : Value} {sz : Nat} (h : CR w L H I v .nil) : Rep w I v (.sl sz []) := by
  obtain ⟨ad, g1⟩ := h
  rw [g1]
  cases ad with
  | none => exact .nil sz
  | some a => exact .emp a sz
theorem qvL {w : World} {L : Loc} {H : List (Nat × Blk)} {I : Nat → Nat → Prop} {h : Nat → Nat} : ∀ {vs : List Value} {cs : List C} {k : Nat} {ts : List T}, CRs w L H I vs cs → qrZ h k cs = some ts → CRs w L H I vs (ts.map .t)
  | [], [], _, ts, _, ht => by cases ht; trivial
  | v :: vs, .t x :: cs, k, ts, hc, ht => by
    simp only [qrZ, Option.map_eq_some_iff] at ht
    obtain ⟨us, h1, rfl⟩ := ht
    exact ⟨hc.1, qvL hc.2 h1⟩
  | v :: vs, .nil :: cs, k, ts, hc, ht => by
    simp only [qrZ, Option.map_eq_some_iff] at ht
    obtain ⟨us, h1, rfl⟩ := ht
    exact ⟨⟨hc.1.1, CR.nil_T (L := L) (H := H) hc.1.2⟩, qvL hc.2 h1⟩
  | [], _ :: _, _, _, hc, _ => hc.elim
  | _ :: _, [], _, _, hc, _ => hc.elim
  | _ :: _, .row .. :: _, _, _, _, ht => by cases ht
  | _ :: _, .clip .. :: _, _, _, _, ht => by cases ht
  | _ :: _, .ptr .. :: _, _, _, _, ht => by cases ht
  | _ :: _, .rptr .. :: _, _, _, _, ht => by cases ht
  | _ :: _, .ep .. :: _, _, _, _, ht => by cases ht
  | _ :: _, .fn .. :: _, _, _, _, ht => by cases ht
  | _ :: _, .any :: _, _, _, _, ht => by cases ht
  | _ :: _, .yd _ :: _, _, _, _, ht => by cases ht
  | _ :: _, .asl .. :: _, _, _, _, ht => by cases ht
theorem zs9 {t : TypeId} {p x : Operand} {j i k n e sz fz : Nat} {es : List (List T)} {el ys : List T} {xs : List C} (hh : Nat → Nat) (ho : o.op = .store t p x) (hd : o.dst = none) (hp : st.ev p = .c (.rptr j i k))
    (hj : st.hp.lookup j = some (.row e sz es fz)) (he : es[i]? = some el) (hx : (st.ev x).cellsL st.hp = some xs) (hy : qrZ hh 0 xs = some ys) (hn : ys.length = n)
    (hi : (P.info? t).map (·.size) = some n) (hk : k + n ≤ sz) (hfz : fz ≤ i) :
    OpOK P cx o st (st.addB j (.row e sz (es.set i (qdH el k ys)) fz)) := by
  intro _ a w hs K Q hK
  obtain ⟨L, I, h⟩ := hs
  have hr := V.cellsL_R (h.ev x) hx
  replace hr := qvL hr hy
  have hv := h.ev p
  rw [hp] at hv
  obtain ⟨g1, g2⟩ := hv e sz es fz hj
  obtain ⟨hB, hsz0, hcap, hmx, hes, hIf, arr, hg, hsz, hcs⟩ := h.hp j _ hj
  have hel : el.length = sz := hes el (List.mem_of_getElem? he)
  have hi1 : i < es.length := (List.getElem?_eq_some_iff.1 he).1
  have hfit : i * sz + sz ≤ arr.size := by
    rw [hsz]
    have : (i + 1) * sz ≤ L.cp j * sz := Nat.mul_le_mul_right _ (by omega)
    rw [Nat.add_mul] at this; omega
  have hxl : (a.eval x).cells.size = n := by have := hr.length; simp at this; omega
  have hone : ∀ u ∈ (a.eval x).cells.toList, u.oneCell' = true := by
    intro u hu
    obtain ⟨q, hq⟩ := List.mem_iff_getElem?.1 hu
    have hlt := (List.getElem?_eq_some_iff.1 hq).1
    obtain ⟨y, hy⟩ : ∃ y, ys[q]? = some y := ⟨_, List.getElem?_eq_getElem (by have := hr.length; simp at this; simp at hlt; omega)⟩
    obtain ⟨v, g1, g2⟩ := hr.reps hy
    rw [hq] at g1; cases g1; exact g2.one
  have hrun : (execOp a.eval o).run P w = .ok .skip (w.setRow (L.m j) (qdH arr.toList (i * sz + k) (a.eval x).cells.toList).toArray) := by
    have hrs := zdJ (P := P) (k := i * sz + k) hi hxl hg (by omega) hone
    simp only [execOp, ho, g2, Sem.run_bind, hrs, Result.andThen_ok]
    rfl
  have hll : (a.eval x).cells.toList.length = ys.length := by have := hr.length; simpa using this
  have hget : ∀ q, (qdH arr.toList (i * sz + k) (a.eval x).cells.toList).toArray[q]? = if i * sz + k ≤ q ∧ q < i * sz + k + ys.length then (a.eval x).cells.toList[q - (i * sz + k)]? else arr[q]? := by
    intro q
    rw [List.getElem?_toArray, qyD _ _ _ (by simp only [Array.length_toList] at hll ⊢; omega), hll]
    simp
  unfold Oper.wp
  rw [hrun]
  refine hK _ _ ?_
  rw [hd]
  refine ⟨L, I, h.write hj hg (fun e' sz' es' fz' he => by cases he; exact ⟨es, fz, rfl, by simp⟩) (fun q hq => ?_) fun kk => ?_⟩
  · rw [hget, if_neg]
    have := hIf q hq
    have : fz * sz ≤ i * sz := Nat.mul_le_mul_right _ hfz
    omega
  · refine ⟨hB, hsz0, by simpa using hcap, hmx, ?_, hIf, _, setRow_heap w _ arr _ e _ hg, ?_, ?_⟩
    · intro y hy'
      rcases List.mem_or_eq_of_mem_set hy' with h1 | h1
      · exact hes y h1
      · subst h1; simp [qdH]; omega
    · simp only [List.size_toArray, qdH, List.length_append, List.length_take, List.length_drop, hll, Array.length_toList]; omega
    · intro i' k' y t' hy' ht'
      rw [List.getElem?_set] at hy'
      rw [hget]
      by_cases hii : i = i'
      · subst hii
        rw [if_pos rfl, if_pos hi1] at hy'
        cases hy'
        rw [qyD _ _ _ (by omega)] at ht'
        have hk' : k' < sz := by
          split at ht'
          · omega
          · have := (List.getElem?_eq_some_iff.1 ht').1; omega
        by_cases hin : k ≤ k' ∧ k' < k + ys.length
        · rw [if_pos hin] at ht'
          rw [if_pos (by omega)]
          obtain ⟨v, q1, q2⟩ := hr.reps ht'
          exact ⟨v, by rw [show i * sz + k' - (i * sz + k) = k' - k by omega]; exact q1, kk.rep q2⟩
        · rw [if_neg hin] at ht'
          rw [if_neg (by omega)]
          obtain ⟨v, q1, q2⟩ := hcs i k' el t' he ht'
          exact ⟨v, q1, kk.rep q2⟩
      · rw [if_neg hii] at hy'
        have hk' : k' < sz := by
          have := (List.getElem?_eq_some_iff.1 ht').1
          rw [hes y (List.mem_of_getElem? hy')] at this; exact this
        have : ¬ (i * sz + k ≤ i' * sz + k' ∧ i' * sz + k' < i * sz + k + ys.length) := by
          rintro ⟨q1, q2⟩
          rcases Nat.lt_or_gt_of_ne hii with hlt | hlt
          · have : (i + 1) * sz ≤ i' * sz := Nat.mul_le_mul_right _ hlt
            rw [Nat.add_mul] at this; omega
          · have : (i' + 1) * sz ≤ i * sz := Nat.mul_le_mul_right _ hlt
            rw [Nat.add_mul] at this; omega
        rw [if_neg this]
        obtain ⟨v, q1, q2⟩ := hcs i' k' y t' hy' ht'
        exact ⟨v, q1, kk.rep q2⟩
end
open Go.RowKit (Below)
def qi8 (P : Program) (t : TypeId) : Option (TypeId × Nat × Nat × Value) :=
  match P.underlying t with
  | some (.slice e) => match P.info? e with
    | some i => match i.zero with
      | some z => if z.cells.size = i.size then some (e, i.size, i.bytes, z) else none
      | none => none
    | none => none
  | _ => none
theorem qj8 {P : Program} {t e sz by' : Nat} {z : Value} (h : qi8 P t = some (e, sz, by', z)) :
    ∃ i, P.underlying t = some (.slice e) ∧ P.info? e = some i ∧ i.size = sz ∧ i.bytes = by' ∧ i.zero = some z ∧ z.cells.size = sz := by
  unfold qi8 at h
  cases hu : P.underlying t with
  | none => simp [hu] at h
  | some d =>
    cases d <;> simp only [hu] at h <;> try cases h
    rename_i e'
    cases hi : P.info? e' with
    | none => simp [hi] at h
    | some i =>
      cases hz : i.zero with
      | none => simp [hi, hz] at h
      | some z' =>
        simp only [hi, hz] at h
        split at h
        · rename_i hs
          cases h
          exact ⟨i, rfl, hi, rfl, rfl, hz, hs⟩
        · cases h
def q73 : List Value → List T → Bool
  | [], [] => true
  | .bool b :: vs, .bool b' :: ts => b == b' && q73 vs ts
  | .int k n :: vs, .int k' n' :: ts => k == k' && n == n' && q73 vs ts
  | .slice none 0 0 :: vs, .sl _ [] :: ts => q73 vs ts
  | _, _ => false
theorem zuL (w : World) (I : Nat → Nat → Prop) : ∀ (vs : List Value) (ts : List T), q73 vs ts = true → vs.length = ts.length ∧ ∀ (k : Nat) (t : T), ts[k]? = some t → ∃ v, vs[k]? = some v ∧ Rep w I v t := by
  intro vs
  induction vs with
  | nil =>
    intro ts h
    cases ts with
    | nil => exact ⟨rfl, fun k t ht => by simp at ht⟩
    | cons t ts => simp [q73] at h
  | cons v vs ih =>
    intro ts h
    have key : ∀ t ts', ts = t :: ts' → Rep w I v t → q73 vs ts' = true → (v :: vs).length = ts.length ∧ ∀ (k : Nat) (t : T), ts[k]? = some t → ∃ u, (v :: vs)[k]? = some u ∧ Rep w I u t := by
      intro t ts' e hr hz
      subst e
      obtain ⟨h1, h2⟩ := ih ts' hz
      refine ⟨by simp [h1], fun k t' ht => ?_⟩
      cases k with
      | zero => simp at ht; subst ht; exact ⟨v, rfl, hr⟩
      | succ k => simpa using h2 k t' (by simpa using ht)
    unfold q73 at h
    split at h
    · rename_i e; cases e
    · rename_i b vs' b' ts' e; cases e
      simp only [Bool.and_eq_true, beq_iff_eq] at h
      obtain ⟨rfl, h⟩ := h
      exact key _ _ rfl (.bool _) h
    · rename_i k n vs' k' n' ts' e; cases e
      simp only [Bool.and_eq_true, beq_iff_eq] at h
      obtain ⟨⟨rfl, rfl⟩, h⟩ := h
      exact key _ _ rfl (.int _ _) h
    · rename_i vs' sz ts' e; cases e
      exact key _ _ rfl (.nil _) h
    · cases h
theorem zxH {q n sz : Nat} (h : q < n * sz) : q / sz < n ∧ q % sz < sz ∧ q / sz * sz + q % sz = q := by
  have hsz : 0 < sz := by
    rcases Nat.eq_zero_or_pos sz with e | e
    · subst e; simp at h
    · exact e
  exact ⟨Nat.div_lt_of_lt_mul (by rw [Nat.mul_comm]; exact h), Nat.mod_lt _ hsz, Nat.div_add_mod' q sz⟩
section
variable {P : Program} {cx : Cx} {o : Oper} {st : St}
theorem zyJ {t : TypeId} {l c : Operand} {kl kc : IntKind} {n m : Int} {j e sz by' : Nat} {z : Value} {zt : List T} (ho : o.op = .makeSlice t l c) (hd : o.dst = some j)
    (hl : st.ev l = .c (.t (.int kl n))) (hc : st.ev c = .c (.t (.int kc m))) (h0 : 0 ≤ n) (h1 : n ≤ m) (hby : (by' : Int) * m ≤ 281474976710656) (h63 : m ≤ 9223372036854775807)
    (hi : qi8 P t = some (e, sz, by', z)) (hsz : 0 < sz) (hz : q73 z.cells.toList zt = true) (hf : st.free j = true) :
    OpOK P cx o st ((st.addB j (.row e sz (List.replicate n.toNat zt) 0)).put j (.c (.row j 0 n.toNat))) := by
  intro hd' a w hs K Q hK
  obtain ⟨L, I, h⟩ := hs
  obtain ⟨i, hu, hie, rfl, rfl, hz0, hzs⟩ := qj8 hi
  obtain ⟨hzl, hzr⟩ := zuL w I _ _ hz
  have hzt : zt.length = i.size := by rw [← hzl]; simpa using hzs
  have hrm := run_make (P := P) w t e i z hu hie hz0 kl kc n m h0 h1 hby h63
  have hrun : (execOp a.eval o).run P w = .ok (.value (.slice (some ⟨w.heap.size, 0, none⟩) n.toNat m.toNat)) (w.alloc (.cells (madeCells z.cells (m.toNat * i.size)) e)) := by
    simp [execOp, ho, qjE h hl, qjE h hc, hrm]
  have h2 := h.addRow (j := j) (e := e) (cap := m.toNat) (arr := madeCells z.cells (m.toNat * i.size)) (es := List.replicate n.toNat zt) hf hsz (by simp; omega) (by simp [maxLen]; omega)
    (fun x hx => by rw [(List.mem_replicate.1 hx).2]; exact hzt) (size_madeCells _ _) (fun q k x t' hx ht => by
      have hq : q < n.toNat := by have := (List.getElem?_eq_some_iff.1 hx).1; simpa using this
      rw [List.getElem?_replicate, if_pos hq] at hx
      cases hx
      have hk : k < i.size := by rw [← hzt]; exact (List.getElem?_eq_some_iff.1 ht).1
      obtain ⟨v, g1, g2⟩ := hzr k t' ht
      refine ⟨v, ?_, g2⟩
      have hlt : q * i.size + k < m.toNat * i.size := by
        have : (q + 1) * i.size ≤ m.toNat * i.size := Nat.mul_le_mul_right _ (by omega)
        rw [Nat.add_mul] at this; omega
      have hmod : (q * i.size + k) % i.size = k := by rw [Nat.mul_comm, Nat.mul_add_mod]; exact Nat.mod_eq_of_lt hk
      simp only [madeCells, Array.getElem?_map, Array.getElem?_range, hlt, if_true, Option.map_some, hzs, hmod]
      have g1' : z.cells[k]? = some v := by simpa using g1
      have : k < z.cells.size := by omega
      rw [Array.getElem?_eq_getElem this] at g1'
      simp only [Option.some.injEq] at g1' ⊢
      rw [getElem!_pos z.cells k this]
      exact g1')
  unfold Oper.wp
  rw [hrun]
  refine hK _ _ ?_
  have := ql9 (o := o) (v := .c (.row j 0 n.toNat)) (val := .slice (some ⟨w.heap.size, 0, none⟩) n.toNat m.toNat) h2 (fun e' sz' es' fz' hj => by
    simp only [St.addB, qcV, if_true] at hj
    cases hj
    exact ⟨by simp, by simp [Loc.set]⟩) hd'
  rw [hd] at this ⊢
  exact this
theorem zi9 {sz : Nat} : ∀ {es : List (List T)}, (∀ x ∈ es, x.length = sz) → ∀ (q k : Nat) (x : List T) (t' : T), es[q]? = some x → x[k]? = some t' → es.flatten[q * sz + k]? = some t'
  | [], _, q, k, x, t', hx, _ => by simp at hx
  | y :: es, hes, 0, k, x, t', hx, ht => by
    simp at hx; subst hx
    have hk := (List.getElem?_eq_some_iff.1 ht).1
    simp only [List.flatten_cons, Nat.zero_mul, Nat.zero_add]
    rw [List.getElem?_append_left hk]; exact ht
  | y :: es, hes, q + 1, k, x, t', hx, ht => by
    have hy : y.length = sz := hes y (by simp)
    have := zi9 (es := es) (fun x hx => hes x (by simp [hx])) q k x t' (by simpa using hx) ht
    simp only [List.flatten_cons]
    rw [List.getElem?_append_right (by rw [hy, Nat.add_mul]; omega), hy, Nat.add_mul]
    rw [show q * sz + 1 * sz + k - sz = q * sz + k by omega]
    exact this
theorem ok_lit {t : TypeId} {len : Nat} {parts : Array (Nat × Operand)} {j e sz by' : Nat} {z : Value} {ds : List C} {es : List (List T)} {qs : List (Nat × List C)} (hh : Nat → Nat) (ho : o.op = .buildSlice t len parts) (hd : o.dst = some j)
    (hi : qi8 P t = some (e, sz, by', z)) (hsz : 0 < sz) (hz : z.cells.all (·.oneCell') = true) (hlen : 0 < len) (h24 : len * sz ≤ 16777216)
    (hq : qtV st parts.toList = some qs) (hfl : znH (fun i => some (i * sz, sz)) (((Array.range (len * sz)).map (z.cells[· % z.cells.size]!)).toList.map qpG) qs = some ds)
    (hds : qrZ hh 0 ds = some es.flatten) (hes : ∀ x ∈ es, x.length = sz) (hle : es.length = len) (hf : st.free j = true) :
    OpOK P cx o st ((st.addB j (.row e sz es 0)).put j (.c (.row j 0 len))) := by
  intro hd' a w hs K Q hK
  obtain ⟨L, I, h⟩ := hs
  obtain ⟨i, hu, hie, rfl, rfl, hz0, hzs⟩ := qj8 hi
  have hp := zjA h _ _ hq
  let zc := (Array.range (len * i.size)).map (z.cells[· % z.cells.size]!)
  have hzc : CRs w L st.hp I zc.toList (zc.toList.map qpG) := qw8 w L st.hp I _ fun v hv => by
    simp only [zc, Array.toList_map, List.mem_map] at hv
    obtain ⟨q, _, rfl⟩ := hv
    have hlt : q % z.cells.size < z.cells.size := Nat.mod_lt _ (by omega)
    rw [getElem!_pos z.cells _ hlt]
    exact Array.all_eq_true_iff_forall_mem.1 hz _ (Array.getElem_mem hlt)
  obtain ⟨out, h1, h2⟩ := znG _ _ _ zc _ ds hp hzc hfl
  replace h2 := qvL h2 hds
  have hol : out.size = len * i.size := by
    have := h2.length
    simp only [Array.length_toList, List.length_map, List.length_flatten] at this
    rw [this, ← hle]
    have hsum : ∀ l : List (List T), (∀ x ∈ l, x.length = i.size) → (l.map List.length).sum = l.length * i.size := by
      intro l
      induction l with
      | nil => simp
      | cons x l ih => intro hx; simp [ih (fun y hy => hx y (by simp [hy])), hx x (by simp), Nat.add_mul, Nat.add_comm]
    exact hsum es hes
  have hrun : (execOp a.eval o).run P w = .ok (.value (.slice (some ⟨w.heap.size, 0, none⟩) len len)) (w.alloc (.cells out e)) := by
    have hparts : (parts.map fun (i, x) => (i, a.eval x)).toList = parts.toList.map fun (i, x) => (i, a.eval x) := by simp
    have hb := run_buildSlice (P := P) w t e len (parts.map fun (i, x) => (i, a.eval x)) out i z hu hie hz0 (by omega) (by have := Nat.mul_pos hlen hsz; omega) (by rw [hparts]; exact h1)
    simp only [execOp, ho, Sem.run_bind, hb, Result.andThen_ok]
    rfl
  have hget := zi9 hes
  have hadd := h.addRow (j := j) (e := e) (cap := len) (arr := out) (es := es) hf hsz (by omega) (by
      simp only [maxLen]
      have : len ≤ len * i.size := Nat.le_mul_of_pos_right _ hsz
      omega) hes hol (fun q k x t' hx ht => by
      obtain ⟨v, g1, g2⟩ := h2.reps (hget q k x t' hx ht)
      exact ⟨v, by simpa using g1, g2⟩)
  unfold Oper.wp
  rw [hrun]
  refine hK _ _ ?_
  have := ql9 (o := o) (v := .c (.row j 0 len)) (val := .slice (some ⟨w.heap.size, 0, none⟩) len len) hadd (fun e' sz' es' fz' hj => by
    simp only [St.addB, qcV, if_true] at hj
    cases hj
    exact ⟨by omega, by simp [Loc.set]⟩) hd'
  rw [hd] at this ⊢
  exact this
end
open Go.RowKit (Below)
def St.keep (st : St) (ts js : List Nat) : St :=
  { tm := ts.filterMap fun t => (st.tm.lookup t).map fun v => (t, v), hp := js.filterMap fun j => (st.hp.lookup j).map fun b => (j, b), ex := st.ex }
theorem qf0 {β : Type} {l : List (Nat × β)} {t : Nat} {v : β} : ∀ {ts : List Nat}, (ts.filterMap fun t => (l.lookup t).map fun v => (t, v)).lookup t = some v → l.lookup t = some v
  | [], h => by simp at h
  | k :: ts, h => by
    simp only [List.filterMap_cons] at h
    cases hk : l.lookup k with
    | none => simp only [hk, Option.map_none] at h; exact qf0 h
    | some u =>
      simp only [hk, Option.map_some, qcV] at h
      split at h
      · rename_i e; subst e; cases h; exact hk
      · exact qf0 h
section
variable {P : Program} {cx : Cx} {st : St} {L : Loc} {I I' : Nat → Nat → Prop} {a : Act} {w w' : World}
theorem SimD.keep (h : SimD cx L I st a w) (ts js : List Nat) : SimD cx L I (st.keep ts js) a w := by
  have k : Keep none w w L L st.hp (st.keep ts js).hp I I := by
    refine ⟨fun _ _ h => h, fun _ _ _ => rfl, fun j _ hs => ⟨?_, rfl⟩, fun j e sz es fz _ hl => ⟨es, fz, qf0 hl, Nat.le_refl _, rfl⟩⟩
    obtain ⟨b, hb⟩ := Option.isSome_iff_exists.1 hs
    rw [qf0 hb]; rfl
  exact {
    below := h.below
    i0 := h.i0
    i1 := h.i1
    ib := h.ib
    inj := fun j j' b b' h1 h2 he => h.inj j j' b b' (qf0 h1) (qf0 h2) he
    hp := fun j b hl => BR.keep k (h.hp j b (qf0 hl)) (Blk.free_none _) rfl rfl rfl (fun o ho => ho)
    tm := fun t v hl => by
      obtain ⟨h1, h2⟩ := h.tm t v (qf0 hl)
      exact ⟨k.v (V.free_none v) h1, h2⟩
    ex := k.vs (qgB _) h.ex
    defers := h.defers
    kp := h.kp
    mks := h.mks
    size := h.size }
theorem Sim.keep (h : Sim cx st a w) (ts js : List Nat) : Sim cx (st.keep ts js) a w := let ⟨L, I, h⟩ := h; ⟨L, I, h.keep ts js⟩
def zjN (j : Nat) (cs : List C) : List C := cs.map fun c => if c.free (some j) then c else .any
def St.scrub (st : St) (j : Nat) : St :=
  { tm := st.tm.map fun p => (p.1, if p.2.free (some j) then p.2 else .c .any)
    hp := st.hp.map fun p => (p.1, match p.2 with | .var cs => .var (zjN j cs) | b => b)
    ex := st.ex.map fun v => if v.free (some j) then v else .c .any }
theorem zo3 {H : List (Nat × Blk)} (j : Nat) : ∀ {vs : List Value} {cs : List C}, CRs w L H I vs cs → CRs w L H I vs (zjN j cs)
  | [], [], _ => trivial
  | v :: vs, c :: cs, h => by
    refine ⟨⟨h.1.1, ?_⟩, zo3 j h.2⟩
    by_cases hc : c.free (some j) = true
    · simp only [hc, if_true]; exact h.1.2
    · simp [hc, CR]
  | [], _ :: _, h => h.elim
  | _ :: _, [], h => h.elim
theorem zdX (j : Nat) : ∀ cs : List C, qpF (some j) (zjN j cs) = true
  | [] => rfl
  | c :: cs => by
    simp only [zjN, List.map_cons, qpF]
    rw [show qpF (some j) (List.map (fun c => if c.free (some j) then c else C.any) cs) = true from zdX j cs, Bool.and_true]
    split
    · assumption
    · rfl
theorem zcL {β : Type} (f : β → β) (t : Nat) : ∀ l : List (Nat × β), (l.map fun p => (p.1, f p.2)).lookup t = (l.lookup t).map f
  | [] => rfl
  | (k, v) :: l => by
    simp only [List.map_cons, qcV]
    split
    · rfl
    · exact zcL f t l
def zg1 (j : Nat) : Blk → Blk
  | .var cs => .var (zjN j cs)
  | b => b
theorem St.scrub_hp (st : St) (j : Nat) : (st.scrub j).hp = st.hp.map fun p => (p.1, zg1 j p.2) := by
  simp only [St.scrub]
  rfl
theorem quG (st : St) (j t : Nat) : (st.scrub j).hp.lookup t = (st.hp.lookup t).map (zg1 j) := by
  rw [St.scrub_hp]; exact zcL (zg1 j) t st.hp
theorem znV {H : List (Nat × Blk)} (j : Nat) : ∀ {vs : List Value} {xs : List V}, VRs w L H I vs xs → VRs w L H I vs (xs.map fun v => if v.free (some j) then v else .c .any)
  | [], [], _ => trivial
  | v :: vs, x :: xs, h => by
    refine ⟨?_, znV j h.2⟩
    by_cases hc : x.free (some j) = true
    · simp only [hc, if_true]; exact h.1
    · simp [hc, VR, CR]
  | [], _ :: _, h => h.elim
  | _ :: _, [], h => h.elim
theorem zdH (j : Nat) : ∀ xs : List V, q2F (some j) (xs.map fun v => if v.free (some j) then v else .c .any) = true
  | [] => rfl
  | x :: xs => by
    simp only [List.map_cons, q2F, zdH j xs, Bool.and_true]
    split
    · assumption
    · rfl
theorem SimD.scrub (h : SimD cx L I st a w) (j : Nat) : SimD cx L I (st.scrub j) a w := by
  have k : Keep none w w L L st.hp (st.scrub j).hp I I := by
    refine ⟨fun _ _ h => h, fun _ _ _ => rfl, fun j' _ hs => ⟨?_, rfl⟩, fun j' e sz es fz _ hl => ?_⟩
    · rw [quG] at hs; simpa using hs
    · rw [quG] at hl
      cases hb : st.hp.lookup j' with
      | none => simp [hb] at hl
      | some b =>
        cases b with
        | var cs => simp [hb, zg1] at hl
        | row e' sz' es' fz' => simp [hb, zg1] at hl; obtain ⟨rfl, rfl, rfl, rfl⟩ := hl; exact ⟨es', fz', rfl, Nat.le_refl _, rfl⟩
  exact {
    below := h.below
    i0 := h.i0
    i1 := h.i1
    ib := h.ib
    inj := fun j1 j2 b b' h1 h2 he => by
      rw [quG] at h1 h2
      cases e1 : st.hp.lookup j1 with
      | none => simp [e1] at h1
      | some c1 => cases e2 : st.hp.lookup j2 with
        | none => simp [e2] at h2
        | some c2 => exact h.inj j1 j2 c1 c2 e1 e2 he
    hp := fun j' b hl => by
      rw [quG] at hl
      cases e1 : st.hp.lookup j' with
      | none => simp [e1] at hl
      | some c =>
        have hb := BR.keep k (h.hp j' c e1) (Blk.free_none _) rfl rfl rfl (fun o ho => ho)
        simp [e1] at hl; subst hl
        cases c with
        | row => exact hb
        | var cs => obtain ⟨g1, g2, arr, ty, g3, g4⟩ := hb; exact ⟨g1, g2, arr, ty, g3, zo3 j g4⟩
    tm := fun t v hl => by
      have hl' : (st.tm.lookup t).map (fun x => if x.free (some j) then x else V.c .any) = some v := by rw [← zcL]; exact hl
      cases e1 : st.tm.lookup t with
      | none => simp [e1] at hl'
      | some u =>
        obtain ⟨h1, h2⟩ := h.tm t u e1
        refine ⟨?_, h2⟩
        simp [e1] at hl'; subst hl'
        split
        · exact k.v (V.free_none u) h1
        · trivial
    ex := znV j (k.vs (qgB _) h.ex)
    defers := h.defers
    kp := h.kp
    mks := h.mks
    size := h.size }
theorem St.scrub_free (st : St) (j : Nat) : (st.scrub j).free j = true := by
  simp only [St.free, Bool.and_eq_true, List.all_eq_true]
  refine ⟨⟨fun p hp => ?_, fun p hp => ?_⟩, zdH j st.ex⟩
  · obtain ⟨q, hq, rfl⟩ := List.mem_map.1 hp
    show (if q.2.free (some j) then q.2 else V.c .any).free (some j) = true
    split
    · assumption
    · rfl
  · rw [St.scrub_hp] at hp
    obtain ⟨q, hq, rfl⟩ := List.mem_map.1 hp
    cases hb : q.2 with
    | var cs => simp [zg1, Blk.free, zdX]
    | row => simp [zg1, Blk.free]
end
def News (w : World) (I : Nat → Nat → Prop) (v : Value) (sz : Nat) (es : List (List T)) : Prop :=
  ∃ ad cap, v = .slice ad es.length cap ∧ (∀ x ∈ es, x.length = sz) ∧
    (es = [] ∨ ∃ b off, ad = some ⟨b, off, none⟩ ∧ ∀ i k x t, es[i]? = some x → x[k]? = some t → ∃ u, w.cell? ⟨b, off + i * sz + k, none⟩ = some u ∧ Rep w I u t)
inductive zdF (hp : List (Nat × Blk)) (sz : Nat) : V → List (List T) → Prop
  | t (es) : zdF hp sz (.c (.t (.sl sz es))) es
  | t0 (sz') : zdF hp sz (.c (.t (.sl sz' []))) []
  | nil : zdF hp sz (.c .nil) []
  | row (j off len e es fz) : hp.lookup j = some (.row e sz es fz) → zdF hp sz (.c (.row j off len)) ((es.drop off).take len)
  | clip (j off len e es fz) : hp.lookup j = some (.row e sz es fz) → zdF hp sz (.c (.clip j off len)) ((es.drop off).take len)
section
variable {P : Program} {cx : Cx} {st : St} {L : Loc} {I I' : Nat → Nat → Prop} {a : Act} {w w' : World}
theorem Rep.news {v : Value} {sz : Nat} {es : List (List T)} (h : Rep w I v (.sl sz es)) : News w I v sz es := by
  cases h with
  | nil => exact ⟨none, 0, rfl, by simp, .inl rfl⟩
  | emp a => exact ⟨some a, 0, rfl, by simp, .inl rfl⟩
  | sl b off len cap _ _ cs ts hlen hcap hsz hts hI hcell hrep =>
    subst hlen
    refine ⟨_, cap, rfl, hsz, .inr ⟨b, off, rfl, fun i k x t hx ht => ?_⟩⟩
    have hi := (List.getElem?_eq_some_iff.1 hx).1
    have hk : k < sz := by rw [← hsz x (List.mem_of_getElem? hx)]; exact (List.getElem?_eq_some_iff.1 ht).1
    have h1 := hts i k x hx hk
    rw [ht] at h1; cases h1
    exact ⟨cs i k, hcell i k hi hk, hrep i k hi hk⟩
theorem zqX (h : SimD cx L I st a w) {j off len e sz fz : Nat} {es : List (List T)} (hj : st.hp.lookup j = some (.row e sz es fz)) (hl : off + len ≤ es.length) (cap : Nat) :
    News w I (.slice (some ⟨L.m j, off * sz, none⟩) len cap) sz ((es.drop off).take len) := by
  obtain ⟨_, hsz0, _, _, hes, _, arr, hg, hsz, hcs⟩ := h.hp j _ hj
  have hlen : ((es.drop off).take len).length = len := by simp; omega
  refine ⟨_, cap, by rw [hlen], fun x hx => hes x (List.mem_of_mem_drop (List.mem_of_mem_take hx)), .inr ⟨_, _, rfl, fun i k x t hx ht => ?_⟩⟩
  have hx' : es[off + i]? = some x := by
    rw [List.getElem?_take] at hx
    split at hx
    · rw [List.getElem?_drop] at hx; exact hx
    · cases hx
  obtain ⟨u, g1, g2⟩ := hcs (off + i) k x t hx' ht
  refine ⟨u, ?_, g2⟩
  rw [qyC hg, show off * sz + i * sz + k = (off + i) * sz + k by rw [Nat.add_mul]]
  exact g1
theorem zdF.R (h : SimD cx L I st a w) {v : Value} {x : V} {sz : Nat} {es : List (List T)} (hn : zdF st.hp sz x es) (hv : VR w L st.hp I v x) : News w I v sz es := by
  cases hn with
  | t => exact Rep.news hv
  | t0 sz' =>
    obtain ⟨ad, cap, hg, _, _⟩ := Rep.slice_inv (hv : Rep w I v _)
    exact ⟨_, cap, hg, by simp, .inl rfl⟩
  | nil =>
    obtain ⟨ad, rfl⟩ := hv
    exact ⟨_, 0, rfl, by simp, .inl rfl⟩
  | row j off len e es' fz hj =>
    obtain ⟨g1, g2⟩ := hv e sz es' fz hj
    subst g2
    exact zqX h hj g1 _
  | clip j off len e es' fz hj =>
    obtain ⟨g1, cap, _, g2⟩ := hv e sz es' fz hj
    subst g2
    exact zqX h hj g1 cap
theorem News.cells {v : Value} {sz : Nat} {es : List (List T)} (h : News w I v sz es) : ∃ ad cap, v = .slice ad es.length cap ∧ (∀ x ∈ es, x.length = sz) ∧
    (es = [] ∨ ∃ b off, ad = some ⟨b, off, none⟩ ∧ ∃ news : List Value, news.length = es.length * sz ∧ (∀ j u, news[j]? = some u → w.cell? ((⟨b, off, none⟩ : Addr).add j) = some u) ∧
      (∀ u ∈ news, u.oneCell' = true) ∧ (∀ i k x t, es[i]? = some x → x[k]? = some t → ∃ u, news[i * sz + k]? = some u ∧ Rep w I u t)) := by
  obtain ⟨ad, cap, hv, hsz, h⟩ := h
  refine ⟨ad, cap, hv, hsz, ?_⟩
  rcases h with h | ⟨b, off, rfl, hc⟩
  · exact .inl h
  · refine .inr ⟨b, off, rfl, (List.range (es.length * sz)).map fun q => (w.cell? ⟨b, off + q, none⟩).getD undef, by simp, ?_, ?_, ?_⟩
    · intro q u hq
      have hlt : q < es.length * sz := by have := (List.getElem?_eq_some_iff.1 hq).1; simpa using this
      obtain ⟨h1, h2, h3⟩ := zxH hlt
      obtain ⟨x, hx⟩ : ∃ x, es[q / sz]? = some x := ⟨_, List.getElem?_eq_getElem h1⟩
      obtain ⟨t, ht⟩ : ∃ t, x[q % sz]? = some t := ⟨_, List.getElem?_eq_getElem (by rw [hsz x (List.mem_of_getElem? hx)]; exact h2)⟩
      obtain ⟨u', g1, g2⟩ := hc _ _ _ _ hx ht
      rw [Nat.add_assoc, h3] at g1
      simp only [List.getElem?_map, List.getElem?_range hlt, Option.map_some, g1, Option.getD_some, Option.some.injEq] at hq
      subst hq
      rw [qtE]; exact g1
    · intro u hu
      obtain ⟨q, hq, rfl⟩ := List.mem_map.1 hu
      have hlt : q < es.length * sz := List.mem_range.1 hq
      obtain ⟨h1, h2, h3⟩ := zxH hlt
      obtain ⟨x, hx⟩ : ∃ x, es[q / sz]? = some x := ⟨_, List.getElem?_eq_getElem h1⟩
      obtain ⟨t, ht⟩ : ∃ t, x[q % sz]? = some t := ⟨_, List.getElem?_eq_getElem (by rw [hsz x (List.mem_of_getElem? hx)]; exact h2)⟩
      obtain ⟨u', g1, g2⟩ := hc _ _ _ _ hx ht
      rw [Nat.add_assoc, h3] at g1
      simp only [g1, Option.getD_some]
      exact g2.one
    · intro i k x t hx ht
      obtain ⟨u, g1, g2⟩ := hc i k x t hx ht
      have hi := (List.getElem?_eq_some_iff.1 hx).1
      have hk : k < sz := by rw [← hsz x (List.mem_of_getElem? hx)]; exact (List.getElem?_eq_some_iff.1 ht).1
      have hlt : i * sz + k < es.length * sz := by
        have : (i + 1) * sz ≤ es.length * sz := Nat.mul_le_mul_right _ (by omega)
        rw [Nat.add_mul] at this; omega
      refine ⟨u, ?_, g2⟩
      simp [hlt, ← Nat.add_assoc, g1]
end
open Go.RowKit (Below)
section
variable {P : Program} {cx : Cx} {o : Oper} {st : St} {L : Loc} {I I' : Nat → Nat → Prop} {a : Act} {w w' : World}
theorem SimD.drew (h : SimD cx L I st a w) : SimD cx L I st a w.drew where
  below := h.below.drew
  i0 := h.i0
  i1 := h.i1
  ib := h.ib
  inj := h.inj
  hp := fun j b hl => by
    have k : Keep none w w.drew L L st.hp st.hp I I := ⟨fun _ _ h => h, fun _ _ _ => rfl, fun j _ hs => ⟨hs, rfl⟩, fun j e sz es fz _ hl => ⟨es, fz, hl, Nat.le_refl _, rfl⟩⟩
    exact BR.keep k (h.hp j b hl) (Blk.free_none _) rfl rfl rfl (fun o ho => ho)
  tm := fun t v hl => by
    have k : Keep none w w.drew L L st.hp st.hp I I := ⟨fun _ _ h => h, fun _ _ _ => rfl, fun j _ hs => ⟨hs, rfl⟩, fun j e sz es fz _ hl => ⟨es, fz, hl, Nat.le_refl _, rfl⟩⟩
    obtain ⟨h1, h2⟩ := h.tm t v hl
    exact ⟨k.v (V.free_none v) h1, h2⟩
  ex := by
    have k : Keep none w w.drew L L st.hp st.hp I I := ⟨fun _ _ h => h, fun _ _ _ => rfl, fun j _ hs => ⟨hs, rfl⟩, fun j e sz es fz _ hl => ⟨es, fz, hl, Nat.le_refl _, rfl⟩⟩
    exact k.vs (qgB _) h.ex
  defers := h.defers
  kp := h.kp
  mks := h.mks
  size := h.size
theorem zdK {t ty e sz by' : Nat} {z : Value} (hi : qi8 P t = some (e, sz, by', z)) (a : Option Addr) (n cap : Nat) (olds : List Value)
    (hlo : olds.length = n * sz) (holds : ∀ ad, a = some ad → ∀ j v, olds[j]? = some v → w.cell? (ad.add j) = some v) (hn0 : a = none → n = 0 ∧ cap = 0)
    (b off m c : Nat) (news : List Value) (hl : news.length = m * sz) (hnews : ∀ j v, news[j]? = some v → w.cell? ((⟨b, off, none⟩ : Addr).add j) = some v)
    (hg : cap < n + m) (hby : (n + m) * by' ≤ 140737488355328) (h63 : n + m ≤ maxLen) :
    ∃ cap' arr, (Builtin.append_ #[t, t] ty #[.slice a n cap, .slice (some ⟨b, off, none⟩) m c]).run P w = .ok (.slice (some ⟨w.heap.size, 0, none⟩) (n + m) cap') (w.drew.alloc (.cells arr e)) ∧
      n + m ≤ cap' ∧ cap' ≤ maxLen ∧ arr.size = cap' * sz ∧ ∀ q, q < (n + m) * sz → arr[q]? = (olds ++ news)[q]? := by
  obtain ⟨i, hu, hie, rfl, rfl, hz0, hzs⟩ := qj8 hi
  have hcap : n + m ≤ grownCap w (n + m) cap e := grownCap_ge w _ _ e
  have hcapm := grownCap_le_maxLen w (n + m) cap e h63
  have h63' : ((n + m : Nat) : Int) ≤ 9223372036854775807 := by simp only [maxLen] at h63; omega
  have hsize : ∀ k, n + m ≤ k → (olds.toArray ++ news.toArray ++ Builtin.zeroCells z.cells (k - (n + m))).size = k * i.size := by
    intro k hk
    simp only [Array.size_append, List.size_toArray, size_zeroCells, hzs, hlo, hl, ← Nat.add_mul]
    congr 1; omega
  have hget : ∀ k q, q < (n + m) * i.size → (olds.toArray ++ news.toArray ++ Builtin.zeroCells z.cells k)[q]? = (olds ++ news)[q]? := by
    intro k q hq
    have hlen : (olds.toArray ++ news.toArray).size = (n + m) * i.size := by simp [hlo, hl, Nat.add_mul]
    rw [Array.getElem?_append_left (by omega)]
    simp [← List.getElem?_toArray]
  rcases a with _ | ad
  · obtain ⟨rfl, rfl⟩ := hn0 rfl
    have : olds = [] := List.eq_nil_of_length_eq_zero (by simpa using hlo)
    subst this
    simp only [Nat.zero_add] at *
    have hr := run_append_nil (P := P) w t ty e i z hu hie hz0 ⟨b, off, none⟩ m c news hl hnews (by omega) h63' (by omega)
    refine ⟨_, _, hr, hcap, hcapm, ?_, ?_⟩
    · simpa using hsize (grownCap w m 0 e) hcap
    · intro q hq; simpa using hget (grownCap w m 0 e - m) q hq
  · have hfit : Builtin.nextslicecap (n + m) cap * i.bytes ≤ 281474976710656 := by
      have := nextslicecap_le hg
      have h2 : Builtin.nextslicecap (n + m) cap * i.bytes ≤ 2 * (n + m) * i.bytes := Nat.mul_le_mul_right _ this
      rw [Nat.mul_assoc] at h2
      omega
    have hr := run_append_grow (P := P) w t ty e i z hu hie hz0 ad n cap olds hlo (holds ad rfl) ⟨b, off, none⟩ m c news hl hnews hg h63' hfit
    exact ⟨_, _, hr, hcap, hcapm, hsize _ hcap, hget _⟩
theorem qmH {t : TypeId} {s x : Operand} {v u : Value} (ho : o.op = .call { callee := .builtin .append, args := #[s, x], argTypes := #[t, t] })
    {a : Act} (h1 : a.eval s = v) (h2 : a.eval x = u) {r : Value} {w' : World} (hr : (Builtin.append_ #[t, t] o.type #[v, u]).run P w = .ok r w') : (execOp a.eval o).run P w = .ok (.value r) w' := by
  simp only [execOp, ho, resolve, Sem.run_bind, Sem.run_pure, Result.andThen_ok, invoke, builtin, List.map_toArray, List.map_cons, List.map_nil, h1, h2, hr]
theorem zl6 {t : TypeId} {s x : Operand} {j e sz by' : Nat} {z : Value} {es : List (List T)} (ho : o.op = .call { callee := .builtin .append, args := #[s, x], argTypes := #[t, t] }) (hd : o.dst = some j)
    (hi : qi8 P t = some (e, sz, by', z)) (hsz : 0 < sz) (hs : st.ev s = .c .nil) (hn : zdF st.hp sz (st.ev x) es) (hpos : 0 < es.length) (hby : es.length * by' ≤ 140737488355328) (h63 : es.length ≤ maxLen)
    (hf : st.free j = true) : OpOK P cx o st ((st.addB j (.row e sz es 0)).put j (.c (.row j 0 es.length))) := by
  intro hd' a w hsim K Q hK
  obtain ⟨L, I, h⟩ := hsim
  obtain ⟨ad, cap, hx, hes, hc⟩ := (hn.R h (h.ev x)).cells
  have hv := h.ev s
  rw [hs] at hv
  obtain ⟨aas, hsv⟩ := hv
  rcases hc with rfl | ⟨b, off, rfl, news, hnl, hnews, h1, hnr⟩
  · simp at hpos
  obtain ⟨cap', arr, hr, c1, c2, c3, c4⟩ := zdK (P := P) (w := w) (ty := o.type) hi aas 0 0 [] (by simp) (fun _ _ j v hj => by simp at hj) (fun _ => ⟨rfl, rfl⟩) b off es.length cap news hnl hnews (by omega) (by simpa using hby) (by simpa using h63)
  simp only [Nat.zero_add, List.nil_append] at hr c1 c4
  have hrun := qmH ho hsv hx hr
  have hadd := h.drew.addRow (j := j) (e := e) (cap := cap') (arr := arr) (es := es) hf hsz c1 c2 hes c3 (fun i k x t hx ht => by
    obtain ⟨u, g1, g2⟩ := hnr i k x t hx ht
    have hlt := (List.getElem?_eq_some_iff.1 g1).1
    exact ⟨u, by rw [c4 _ (by omega)]; exact g1, g2.mono (fun _ _ h => h) (fun _ _ _ => rfl)⟩)
  unfold Oper.wp
  rw [hrun]
  refine hK _ _ ?_
  have := ql9 (o := o) (v := .c (.row j 0 es.length)) (val := .slice (some ⟨w.heap.size, 0, none⟩) es.length cap') hadd (fun e' sz' es' fz' hj => by
    simp only [St.addB, qcV, if_true] at hj
    cases hj
    exact ⟨by omega, by simp [Loc.set]⟩) hd'
  rw [hd] at this ⊢
  exact this
theorem zrW {t : TypeId} {s x : Operand} {d j e sz by' : Nat} {z : Value} {es es2 : List (List T)} (ho : o.op = .call { callee := .builtin .append, args := #[s, x], argTypes := #[t, t] }) (hd : o.dst = some d)
    (hi : qi8 P t = some (e, sz, by', z)) (hsz : 0 < sz) (hs : st.ev s = .c (.row j 0 es.length)) (hj : st.hp.lookup j = some (.row e sz es 0)) (hn : zdF st.hp sz (st.ev x) es2)
    (hby : (es.length + es2.length) * by' ≤ 140737488355328) (h63 : es.length + es2.length ≤ maxLen) :
    OpOK P cx o st (((st.scrub j).addB j (.row e sz (es ++ es2) 0)).put d (.c (.row j 0 (es.length + es2.length)))) := by
  intro hd' a w hsim K Q hK
  obtain ⟨L, I, h⟩ := hsim
  obtain ⟨ad, cap, hx, hes2, hc⟩ := (hn.R h (h.ev x)).cells
  have hv := h.ev s
  rw [hs] at hv
  obtain ⟨_, hsv⟩ := hv e sz es 0 hj
  simp only [Nat.zero_mul, Nat.sub_zero] at hsv
  have hblk := h.hp j _ hj
  obtain ⟨hB, _, hcap, hmx, hes, hIf, arr, hg, hsize, hcs⟩ := hblk
  have hnI : ∀ o, ¬ I (L.m j) o := fun o ho => by have := hIf o ho; simp at this
  have hlt : L.m j < w.heap.size := (Array.getElem?_eq_some_iff.1 hg).1
  have hsc := h.scrub j
  have hfree := St.scrub_free st j
  have hj' : (st.scrub j).hp.lookup j = some (.row e sz es 0) := by rw [quG, hj]; rfl
  have hnsz : es.length * sz ≤ arr.size := by rw [hsize]; exact Nat.mul_le_mul_right _ hcap
  have hall : ∀ x ∈ es ++ es2, x.length = sz := fun x hx => by rcases List.mem_append.1 hx with h | h; exact hes x h; exact hes2 x h
  have hput : ∀ {L' : Loc} {w' : World}, SimD cx L' I ((st.scrub j).addB j (.row e sz (es ++ es2) 0)) a w' → ∀ cap', L'.cp j = cap' → ∀ g, L'.m j = g →
      Sim cx (((st.scrub j).addB j (.row e sz (es ++ es2) 0)).put d (.c (.row j 0 (es.length + es2.length)))) (a.put o.dst (.slice (some ⟨g, 0, none⟩) (es.length + es2.length) cap')) w' := by
    intro L' w' hs' cap' hc' g hg'
    have := ql9 (o := o) (v := .c (.row j 0 (es.length + es2.length))) (val := .slice (some ⟨g, 0, none⟩) (es.length + es2.length) cap') hs' (fun e' sz' es' fz' hl => by
      simp only [St.addB, qcV, if_true] at hl
      cases hl
      exact ⟨by simp, by simp [hc', hg']⟩) hd'
    rw [hd] at this ⊢
    exact this
  rcases hc with rfl | ⟨b, off, rfl, news, hnl, hnews, h1, hnr⟩
  · -- nothing is appended
    obtain ⟨i, hu, hie, rfl, rfl, hz0, hzs⟩ := qj8 hi
    have hr : (Builtin.append_ #[t, t] o.type #[.slice (some ⟨L.m j, 0, none⟩) es.length (L.cp j), .slice ad 0 cap]).run P w = .ok (.slice (some ⟨L.m j, 0, none⟩) es.length (L.cp j)) w := by
      cases ad <;> simp [Builtin.append_, run_underlying hu, qlG hie, Builtin.lenOf, hcap, Builtin.firstCells, storeCells, loadCells, loadCellsFrom]
    have hrun := qmH ho hsv hx hr
    unfold Oper.wp
    rw [hrun]
    refine hK _ _ ?_
    have hs' : SimD cx L I ((st.scrub j).addB j (.row e i.size (es ++ []) 0)) a w := by
      have hself : w.setRow (L.m j) arr = w := by rw [setRow_self w _ arr e (0, 0) hg]
      have := hsc.write (b' := .row e i.size (es ++ []) 0) (arr' := arr) hj' hg (fun e' sz' es' fz' he => by cases he; exact ⟨es, 0, rfl, by simp⟩) (fun _ _ => rfl) (fun kk => by
        rw [List.append_nil]
        refine ⟨hB, hsz, hcap, hmx, hes, hIf, arr, setRow_heap w _ arr _ e _ hg, hsize, fun q k x t hx ht => ?_⟩
        obtain ⟨v, g1, g2⟩ := hcs q k x t hx ht
        exact ⟨v, g1, kk.rep g2⟩)
      rw [hself] at this
      exact this
    simpa using hput hs' (L.cp j) rfl (L.m j) rfl
  · by_cases hroom : es.length + es2.length ≤ L.cp j
    · obtain ⟨i, hu, hie, rfl, rfl, hz0, hzs⟩ := qj8 hi
      have hfit : es.length * i.size + news.length ≤ arr.size := by rw [hnl, hsize, ← Nat.add_mul]; exact Nat.mul_le_mul_right _ hroom
      have hr := run_append_room (P := P) w t o.type e i hu hie (L.m j) es.length (L.cp j) arr hg ⟨b, off, none⟩ es2.length cap news hnl hnews h1 hroom hfit
      have hrun := qmH ho hsv hx hr
      have hget : ∀ q, (arr.toList.take (es.length * i.size) ++ news ++ arr.toList.drop (es.length * i.size + news.length)).toArray[q]? =
          if es.length * i.size ≤ q ∧ q < es.length * i.size + news.length then news[q - es.length * i.size]? else arr[q]? := by
        intro q
        rw [List.getElem?_toArray]
        have := qyD arr.toList (es.length * i.size) news (by simpa using hfit) q
        simp only [qdH] at this
        rw [this]; simp
      unfold Oper.wp
      rw [hrun]
      refine hK _ _ ?_
      refine hput (hsc.write (b' := .row e i.size (es ++ es2) 0) hj' hg (fun e' sz' es' fz' he => by cases he; exact ⟨es, 0, rfl, by simp⟩) (fun q hq => absurd hq (hnI q)) (fun kk => ?_)) (L.cp j) rfl (L.m j) rfl
      refine ⟨hB, hsz, by simpa using hroom, hmx, hall, fun q hq => absurd hq (hnI q), _, setRow_heap w _ arr _ e _ hg, ?_, ?_⟩
      · simp only [List.size_toArray, List.length_append, List.length_take, List.length_drop, Array.length_toList]; omega
      · intro q k x t' hx' ht'
        rw [hget]
        have hk : k < i.size := by rw [← hall x (List.mem_of_getElem? hx')]; exact (List.getElem?_eq_some_iff.1 ht').1
        rw [List.getElem?_append] at hx'
        split at hx'
        · rename_i hq
          have : q * i.size + k < es.length * i.size := by
            have : (q + 1) * i.size ≤ es.length * i.size := Nat.mul_le_mul_right _ hq
            rw [Nat.add_mul] at this; omega
          rw [if_neg (by omega)]
          obtain ⟨v, g1, g2⟩ := hcs q k x t' hx' ht'
          exact ⟨v, g1, kk.rep g2⟩
        · rename_i hq
          obtain ⟨u, g1, g2⟩ := hnr _ k x t' hx' ht'
          have hlt2 := (List.getElem?_eq_some_iff.1 g1).1
          have e1 : q * i.size + k = es.length * i.size + ((q - es.length) * i.size + k) := by
            have : q = es.length + (q - es.length) := by omega
            conv => lhs; rw [this, Nat.add_mul]
            omega
          rw [e1, if_pos (by omega), Nat.add_sub_cancel_left]
          exact ⟨u, g1, kk.rep g2⟩
    · obtain ⟨cap', arr', hr, c1, c2, c3, c4⟩ := zdK (P := P) (w := w) (ty := o.type) hi (some ⟨L.m j, 0, none⟩) es.length (L.cp j) (arr.toList.take (es.length * sz)) (by simp; omega)
        (fun ad' he q v hq => by
          cases he
          rw [qtE, qyC hg]
          rw [List.getElem?_take] at hq
          split at hq
          · simpa using hq
          · cases hq) (fun he => by cases he) b off es2.length cap news hnl hnews (by omega) hby h63
      have hrun := qmH ho hsv hx hr
      have hadd := hsc.drew.addRow (j := j) (e := e) (cap := cap') (arr := arr') (es := es ++ es2) hfree hsz (by simpa using c1) c2 hall c3 (fun q k x t hx' ht' => by
        have hk : k < sz := by rw [← hall x (List.mem_of_getElem? hx')]; exact (List.getElem?_eq_some_iff.1 ht').1
        have hq : q < (es ++ es2).length := (List.getElem?_eq_some_iff.1 hx').1
        have hlt2 : q * sz + k < (es.length + es2.length) * sz := by
          have hq' : q < es.length + es2.length := by simpa using hq
          have : (q + 1) * sz ≤ (es.length + es2.length) * sz := Nat.mul_le_mul_right _ hq'
          rw [Nat.add_mul] at this; omega
        rw [c4 _ hlt2]
        have htl : (arr.toList.take (es.length * sz)).length = es.length * sz := by simp; omega
        rw [List.getElem?_append, htl]
        rw [List.getElem?_append] at hx'
        split at hx'
        · rename_i hq1
          have : q * sz + k < es.length * sz := by
            have : (q + 1) * sz ≤ es.length * sz := Nat.mul_le_mul_right _ hq1
            rw [Nat.add_mul] at this; omega
          rw [if_pos this, List.getElem?_take, if_pos this]
          obtain ⟨v, g1, g2⟩ := hcs q k x t hx' ht'
          exact ⟨v, by simpa using g1, g2.mono (fun _ _ h => h) (fun _ _ _ => rfl)⟩
        · rename_i hq1
          obtain ⟨u, g1, g2⟩ := hnr _ k x t hx' ht'
          have e1 : q * sz + k = es.length * sz + ((q - es.length) * sz + k) := by
            have : q = es.length + (q - es.length) := by omega
            conv => lhs; rw [this, Nat.add_mul]
            omega
          rw [e1, if_neg (by omega), Nat.add_sub_cancel_left]
          exact ⟨u, g1, g2.mono (fun _ _ h => h) (fun _ _ _ => rfl)⟩)
      unfold Oper.wp
      rw [hrun]
      refine hK _ _ ?_
      exact hput hadd cap' (by simp [Loc.set]) _ (by simp [Loc.set])
end
open Go.RowKit (Below)
section
variable {P : Program} {cx : Cx} {o : Oper} {st : St} {L : Loc} {I I' : Nat → Nat → Prop} {a : Act} {w w' : World}
theorem St.addB_lookup (st : St) (j : Nat) (b : Blk) (k : Nat) : (st.addB j b).hp.lookup k = if k = j then some b else st.hp.lookup k := by
  simp only [St.addB, qcV]
theorem SimD.freeze (h : SimD cx L I st a w) {j e sz fz n : Nat} {es : List (List T)} (hj : st.hp.lookup j = some (.row e sz es fz)) :
    SimD cx L (fun b o => I b o ∨ (b = L.m j ∧ o < n * sz)) (st.addB j (.row e sz es (max fz n))) a w := by
  have hlt := (h.hp j _ hj).lt
  have k : Keep none w w L L st.hp (st.addB j (.row e sz es (max fz n))).hp I (fun b o => I b o ∨ (b = L.m j ∧ o < n * sz)) := by
    refine ⟨fun _ _ h => .inl h, fun _ _ _ => rfl, fun j' _ hs => ⟨?_, rfl⟩, fun j' e' sz' es' fz' _ hl => ?_⟩
    · rw [St.addB_lookup] at hs
      split at hs
      · rename_i e; subst e; rw [hj]; rfl
      · exact hs
    · rw [St.addB_lookup] at hl
      split at hl
      · rename_i e; subst e; cases hl; exact ⟨es, fz, hj, Nat.le_refl _, rfl⟩
      · exact ⟨es', fz', hl, Nat.le_refl _, rfl⟩
  have f : ∀ j' b', (st.addB j (.row e sz es (max fz n))).hp.lookup j' = some b' → ∃ b'', st.hp.lookup j' = some b'' := by
    intro j' b' hl
    rw [St.addB_lookup] at hl
    split at hl
    · rename_i e; subst e; exact ⟨_, hj⟩
    · exact ⟨_, hl⟩
  refine h.step k (fun j' e => by cases e) (Below.refl _ _) ?_ ?_ ?_ ?_ (fun _ _ hD _ => hD) rfl
  · intro b o hb
    rcases hb with hb | ⟨rfl, _⟩
    · exact h.i1 b o hb
    · exact .inr hlt.1
  · intro b o hb
    rcases hb with hb | ⟨rfl, _⟩
    · exact h.ib b o hb
    · exact hlt.2
  · intro j1 j2 b1 b2 h1 h2 he
    obtain ⟨_, g1⟩ := f _ _ h1
    obtain ⟨_, g2⟩ := f _ _ h2
    exact h.inj _ _ _ _ g1 g2 he
  · intro j' b' hl
    rw [qcV] at hl
    split at hl
    · rename_i e; subst e; cases hl
      obtain ⟨h1, h2, h3, h4, h5, h6, c, h7, h8, h9⟩ := h.hp _ _ hj
      refine ⟨h1, h2, h3, h4, h5, ?_, c, h7, h8, fun i q x t hx ht => ?_⟩
      · intro o ho
        rcases ho with ho | ⟨_, ho⟩
        · exact Nat.lt_of_lt_of_le (h6 o ho) (Nat.mul_le_mul_right _ (Nat.le_max_left _ _))
        · exact Nat.lt_of_lt_of_le ho (Nat.mul_le_mul_right _ (Nat.le_max_right _ _))
      · obtain ⟨v, g1, g2⟩ := h9 i q x t hx ht
        exact ⟨v, g1, k.rep g2⟩
    · rename_i e
      refine BR.keep k (h.hp j' b' hl) (Blk.free_none _) rfl rfl rfl (fun o ho => ?_)
      rcases ho with ho | ⟨ho, _⟩
      · exact ho
      · exact absurd (h.inj _ _ _ _ hl hj ho) e
theorem za9 (h : SimD cx L I st a w) {j e sz fz off len cap : Nat} {es : List (List T)} (hj : st.hp.lookup j = some (.row e sz es fz)) (hl : off + len ≤ es.length) (hc : len ≤ cap)
    (hI : ∀ o, o < (off + len) * sz → I (L.m j) o) : Rep w I (.slice (some ⟨L.m j, off * sz, none⟩) len cap) (.sl sz ((es.drop off).take len)) := by
  obtain ⟨_, hsz0, _, _, hes, _, arr, hg, hsize, hcs⟩ := h.hp j _ hj
  have hlen : ((es.drop off).take len).length = len := by simp; omega
  have hget : ∀ i x, ((es.drop off).take len)[i]? = some x → es[off + i]? = some x := by
    intro i x hx
    rw [List.getElem?_take] at hx
    split at hx
    · rw [List.getElem?_drop] at hx; exact hx
    · cases hx
  have key : ∀ i k, i < len → k < sz → ∃ v t, w.cell? ⟨L.m j, off * sz + i * sz + k, none⟩ = some v ∧ ((es.drop off).take len)[i]?.bind (·[k]?) = some t ∧ Rep w I v t := by
    intro i k hi hk
    obtain ⟨x, hx⟩ : ∃ x, ((es.drop off).take len)[i]? = some x := ⟨_, List.getElem?_eq_getElem (by omega)⟩
    have hx' := hget i x hx
    obtain ⟨t, ht⟩ : ∃ t, x[k]? = some t := ⟨_, List.getElem?_eq_getElem (by rw [hes x (List.mem_of_getElem? hx')]; exact hk)⟩
    obtain ⟨v, g1, g2⟩ := hcs (off + i) k x t hx' ht
    refine ⟨v, t, ?_, by rw [hx]; exact ht, g2⟩
    rw [qyC hg, show off * sz + i * sz + k = (off + i) * sz + k by rw [Nat.add_mul]]
    exact g1
  refine .sl _ _ len cap sz _ (fun i k => (w.cell? ⟨L.m j, off * sz + i * sz + k, none⟩).getD undef) (fun i k => (((es.drop off).take len)[i]?.bind (·[k]?)).getD (.bool false)) hlen hc
    (fun x hx => hes x (List.mem_of_mem_drop (List.mem_of_mem_take hx))) ?_ ?_ ?_ ?_
  · intro i k x hx hk
    have hi : i < len := by rw [← hlen]; exact (List.getElem?_eq_some_iff.1 hx).1
    obtain ⟨v, t, _, g2, _⟩ := key i k hi hk
    rw [g2]
    rw [hx] at g2
    exact g2
  · intro i k hi hk
    refine hI _ ?_
    have : (off + i + 1) * sz ≤ (off + len) * sz := Nat.mul_le_mul_right _ (by omega)
    rw [Nat.add_mul, Nat.add_mul] at this
    omega
  · intro i k hi hk
    obtain ⟨v, t, g1, _, _⟩ := key i k hi hk
    rw [g1]; rfl
  · intro i k hi hk
    obtain ⟨v, t, g1, g2, g3⟩ := key i k hi hk
    rw [g1, g2]; exact g3
theorem zuY (xs : Array Value) {t : Nat} (h : t < xs.size) : xs.setIfInBounds t (xs.getD t undef) = xs := by
  apply Array.ext_getElem?
  intro i
  rw [Array.getElem?_setIfInBounds]
  by_cases e : t = i
  · subst e; simp [h]
  · simp [e]
theorem SimD.retell (h : SimD cx L I st a w) {t : Nat} {v : V} (htn : t < cx.n) (hv : VR w L st.hp I (a.tmps.getD t undef) v) : SimD cx L I (st.put t v) a w := by
  have := h.put hv htn
  have hself : ({ a with tmps := a.tmps.setIfInBounds t (a.tmps.getD t undef) } : Act) = a := by
    have htl : t < a.tmps.size := by rw [h.size]; exact htn
    rw [zuY a.tmps htl]
  rw [hself] at this
  exact this
theorem Sim.snap {t j e sz fz off len : Nat} {es : List (List T)} (hs : Sim cx st a w) (ht : st.tm.lookup t = some (.c (.row j off len))) (hj : st.hp.lookup j = some (.row e sz es fz)) :
    Sim cx ((st.addB j (.row e sz es (max fz (off + len)))).put t (.c (.t (.sl sz ((es.drop off).take len))))) a w := by
  obtain ⟨L, I, h⟩ := hs
  have h2 := h.freeze (n := off + len) hj
  obtain ⟨hv, htn⟩ := h.tm t _ ht
  obtain ⟨g1, g2⟩ := hv e sz es fz hj
  obtain ⟨_, _, hcp, _⟩ := h.hp j _ hj
  have hr := za9 h2 (j := j) (off := off) (len := len) (cap := L.cp j - off) (by rw [St.addB_lookup, if_pos rfl]) g1 (by omega) (fun o ho => .inr ⟨rfl, ho⟩)
  exact ⟨L, _, h2.retell htn (by rw [g2]; exact hr)⟩
theorem Sim.snapClip {t j e sz fz off len : Nat} {es : List (List T)} (hs : Sim cx st a w) (ht : st.tm.lookup t = some (.c (.clip j off len))) (hj : st.hp.lookup j = some (.row e sz es fz)) :
    Sim cx ((st.addB j (.row e sz es (max fz (off + len)))).put t (.c (.t (.sl sz ((es.drop off).take len))))) a w := by
  obtain ⟨L, I, h⟩ := hs
  have h2 := h.freeze (n := off + len) hj
  obtain ⟨hv, htn⟩ := h.tm t _ ht
  obtain ⟨g1, cap, hc, g2⟩ := hv e sz es fz hj
  have hr := za9 h2 (j := j) (off := off) (len := len) (cap := cap) (by rw [St.addB_lookup, if_pos rfl]) g1 hc (fun o ho => .inr ⟨rfl, ho⟩)
  exact ⟨L, _, h2.retell htn (by rw [g2]; exact hr)⟩
theorem Sim.nilT {t sz : Nat} (hs : Sim cx st a w) (ht : st.tm.lookup t = some (.c .nil)) : Sim cx (st.put t (.c (.t (.sl sz [])))) a w := by
  obtain ⟨L, I, h⟩ := hs
  obtain ⟨hv, htn⟩ := h.tm t _ ht
  exact ⟨L, I, h.retell htn (CR.nil_T (L := L) (H := st.hp) hv)⟩
theorem SimD.sub {st' : St} (h : SimD cx L I st a w) (ht : ∀ t v, st'.tm.lookup t = some v → st.tm.lookup t = some v) (hp : ∀ j b, st'.hp.lookup j = some b → st.hp.lookup j = some b) (he : st'.ex = st.ex) :
    SimD cx L I st' a w := by
  have k : Keep none w w L L st.hp st'.hp I I := by
    refine ⟨fun _ _ h => h, fun _ _ _ => rfl, fun j _ hs => ⟨?_, rfl⟩, fun j e sz es fz _ hl => ⟨es, fz, hp _ _ hl, Nat.le_refl _, rfl⟩⟩
    obtain ⟨b, hb⟩ := Option.isSome_iff_exists.1 hs
    rw [hp _ _ hb]; rfl
  exact {
    below := h.below
    i0 := h.i0
    i1 := h.i1
    ib := h.ib
    inj := fun j j' b b' h1 h2 he => h.inj j j' b b' (hp _ _ h1) (hp _ _ h2) he
    hp := fun j b hl => BR.keep k (h.hp j b (hp _ _ hl)) (Blk.free_none _) rfl rfl rfl (fun o ho => ho)
    tm := fun t v hl => by
      obtain ⟨h1, h2⟩ := h.tm t v (ht _ _ hl)
      exact ⟨k.v (V.free_none v) h1, h2⟩
    ex := by rw [he]; exact k.vs (qgB _) h.ex
    defers := h.defers
    kp := h.kp
    mks := h.mks
    size := h.size }
theorem zpU {t : TypeId} {s x : Operand} {j e sz by' : Nat} {z : Value} {es : List (List T)} (ho : o.op = .call { callee := .builtin .append, args := #[s, x], argTypes := #[t, t] }) (hd : o.dst = some j)
    (hi : qi8 P t = some (e, sz, by', z)) (hsz : 0 < sz) (hs : st.ev s = .c .nil) (hn : zdF st.hp sz (st.ev x) es) (hby : es.length * by' ≤ 140737488355328) (h63 : es.length ≤ maxLen)
    (hf : st.free j = true) (hjn : st.hp.lookup j = none) : OpOK P cx o st (st.put j (.c (.t (.sl sz es)))) := by
  by_cases hpos : 0 < es.length
  · intro hd' a w hsim K Q hK
    refine zl6 ho hd hi hsz hs hn hpos hby h63 hf hd' a w hsim K Q fun a' w' hs' => hK a' w' ?_
    have h1 : ((st.addB j (.row e sz es 0)).put j (.c (.row j 0 es.length))).tm.lookup j = some (.c (.row j 0 es.length)) := by rw [St.put_lookup]; simp
    have h2 := Sim.snap (e := e) (sz := sz) (es := es) (fz := 0) hs' h1 (by show (st.addB j _).hp.lookup j = _; rw [St.addB_lookup, if_pos rfl])
    have h3 : ((es.drop 0).take es.length) = es := by simp
    rw [h3] at h2
    obtain ⟨L, I, h2⟩ := h2
    refine ⟨L, I, h2.sub ?_ ?_ rfl⟩
    · intro k v hv
      rw [St.put_lookup] at hv ⊢
      split at hv
      · rename_i e; subst e; simpa using hv
      · rename_i hne
        rw [if_neg hne]
        show ((st.addB j (.row e sz es 0)).put j (.c (.row j 0 es.length))).tm.lookup k = _
        rw [St.put_lookup, if_neg hne]; exact hv
    · intro k b hb
      have hne : k ≠ j := fun e => by subst e; rw [show (st.put k _).hp.lookup k = st.hp.lookup k from rfl, hjn] at hb; cases hb
      show (((st.addB j (.row e sz es 0)).put j (.c (.row j 0 es.length))).addB j (.row e sz es (max 0 (0 + es.length)))).hp.lookup k = _
      rw [St.addB_lookup, if_neg hne]
      show (st.addB j _).hp.lookup k = _
      rw [St.addB_lookup, if_neg hne]; exact hb
  · have hnil : es = [] := List.eq_nil_of_length_eq_zero (by omega)
    subst hnil
    intro hd' a w hsim K Q hK
    obtain ⟨L, I, h⟩ := hsim
    obtain ⟨ad, cap, hx, _, _⟩ := hn.R h (h.ev x)
    have hv := h.ev s
    rw [hs] at hv
    obtain ⟨aas, hsv⟩ := hv
    obtain ⟨i, hu, hie, rfl, rfl, hz0, hzs⟩ := qj8 hi
    have hr : (Builtin.append_ #[t, t] o.type #[.slice aas 0 0, .slice ad 0 cap]).run P w = .ok (.slice aas 0 0) w := by
      cases ad <;> cases aas <;>
        simp [Builtin.append_, run_underlying hu, qlG hie, Builtin.lenOf, Builtin.firstCells, loadCells, loadCellsFrom, storeCells]
    have hrun := qmH ho hsv hx hr
    unfold Oper.wp
    rw [hrun]
    refine hK _ _ ?_
    have := ql9 (o := o) (v := .c (.t (.sl i.size []))) (val := .slice aas 0 0) h (CR.nil_T (L := L) (H := st.hp) (by rw [← hsv]; exact ⟨aas, hsv⟩)) hd'
    rw [hd] at this ⊢
    exact this
end
open Go.RowKit (Below)
inductive TV where
  | c (x : T)
  | agg (xs : List T)
  | tup (xs : List (Bool × List T))
def TV.toV : TV → V
  | .c x => .c (.t x)
  | .agg xs => .agg (xs.map .t)
  | .tup xs => .tup (xs.map fun p => (p.1, p.2.map .t))
def L0 : Loc := ⟨fun _ => 0, fun _ => 0, []⟩
def TVR (w : World) (I : Nat → Nat → Prop) (v : Value) (x : TV) : Prop := VR w L0 [] I v x.toV
def TVRs (w : World) (I : Nat → Nat → Prop) (vs : List Value) (xs : List TV) : Prop := VRs w L0 [] I vs (xs.map TV.toV)
section
variable {w w' : World} {L L' : Loc} {H H' : List (Nat × Blk)} {I I' : Nat → Nat → Prop}
theorem CRs.reT : ∀ {vs : List Value} {ts : List T}, CRs w L H I vs (ts.map .t) → CRs w L' H' I vs (ts.map .t)
  | [], [], _ => trivial
  | _ :: _, _ :: _, h => ⟨h.1, CRs.reT h.2⟩
  | [], _ :: _, h => h.elim
  | _ :: _, [], h => h.elim
theorem UR.reT {v : Value} : ∀ {p : Bool × List T}, UR w L H I v (p.1, p.2.map .t) → UR w L' H' I v (p.1, p.2.map .t)
  | (true, _), ⟨cs, h1, h2⟩ => ⟨cs, h1, h2.reT⟩
  | (false, [x]), ⟨y, h1, h2⟩ => by
    simp only [List.map_cons, List.map_nil, List.cons.injEq, and_true] at h1
    subst h1
    exact ⟨_, rfl, h2⟩
  | (false, []), ⟨y, h1, _⟩ => by simp at h1
  | (false, _ :: _ :: _), ⟨y, h1, _⟩ => by simp at h1
theorem URs.reT : ∀ {vs : List Value} {ts : List (Bool × List T)}, URs w L H I vs (ts.map fun p => (p.1, p.2.map .t)) → URs w L' H' I vs (ts.map fun p => (p.1, p.2.map .t))
  | [], [], _ => trivial
  | _ :: _, _ :: _, h => ⟨h.1.reT, URs.reT h.2⟩
  | [], _ :: _, h => h.elim
  | _ :: _, [], h => h.elim
theorem VR.reT {v : Value} {x : TV} (h : VR w L H I v x.toV) : VR w L' H' I v x.toV := by
  cases x with
  | c x => exact h
  | agg xs => obtain ⟨cs, h1, h2⟩ := h; exact ⟨cs, h1, h2.reT⟩
  | tup xs => obtain ⟨cs, h1, h2⟩ := h; exact ⟨cs, h1, h2.reT⟩
theorem VRs.reT : ∀ {vs : List Value} {ts : List TV}, VRs w L H I vs (ts.map TV.toV) → VRs w L' H' I vs (ts.map TV.toV)
  | [], [], _ => trivial
  | _ :: _, _ :: _, h => ⟨h.1.reT, VRs.reT h.2⟩
  | [], _ :: _, h => h.elim
  | _ :: _, [], h => h.elim
def tvH (hs : List Nat) : V → Option TV
  | .c (.t x) => some (.c x)
  | .c .nil => some (.c (.sl (hs.getD 0 0) []))
  | .agg cs => (qrZ (fun k => hs.getD k 0) 0 cs).map .agg
  | _ => none
theorem tvH_R {hs : List Nat} {v : Value} {x : V} {y : TV} (h : VR w L H I v x) (hx : tvH hs x = some y) : VR w L H I v y.toV := by
  unfold tvH at hx
  split at hx
  · cases hx; exact h
  · cases hx; exact CR.nil_T (L := L) (H := H) h
  · simp only [Option.map_eq_some_iff] at hx
    obtain ⟨ts, h1, rfl⟩ := hx
    obtain ⟨cs, h2, h3⟩ := h
    exact ⟨cs, h2, qvL h3 h1⟩
  · cases hx
def uH (hs : List Nat) : V → Option (Bool × List T)
  | .c (.t x) => some (false, [x])
  | .c .nil => some (false, [.sl (hs.getD 0 0) []])
  | .agg cs => (qrZ (fun k => hs.getD k 0) 0 cs).map fun ts => (true, ts)
  | _ => none
theorem uH_R {hs : List Nat} {v : Value} {x : V} {y : Bool × List T} (h : VR w L H I v x) (hx : uH hs x = some y) : UR w L H I v (y.1, y.2.map .t) := by
  unfold uH at hx
  split at hx
  · cases hx; exact ⟨_, rfl, h⟩
  · cases hx; exact ⟨_, rfl, CR.nil_T (L := L) (H := H) h⟩
  · simp only [Option.map_eq_some_iff] at hx
    obtain ⟨ts, h1, rfl⟩ := hx
    obtain ⟨cs, h2, h3⟩ := h
    exact ⟨cs, h2, qvL h3 h1⟩
  · cases hx
end
def qc7 (P : Program) (f : FuncId) (args : List TV) (res : TV) : Prop :=
  ∀ (I : Nat → Nat → Prop) (w : World) (vs : List Value), (∀ b o, I b o → b < w.heap.size) → TVRs w I vs args →
    Calls P f vs.toArray w fun e w' => ∃ v, e = .returned v ∧ Below w.heap.size w w' ∧ ∃ I' : Nat → Nat → Prop, (∀ b o, I b o → I' b o) ∧ (∀ b o, I' b o → I b o ∨ w.heap.size ≤ b) ∧
      (∀ b o, I' b o → b < w'.heap.size) ∧ TVR w' I' v res
def qjV (P : Program) (f : FuncId) : Bool :=
  match P.funcs[f]? with
  | some fn => !(fn.name == "runtime.NumGoroutine") && fn.body.isSome
  | none => false
def zdE (st : St) : List (List Nat) → List Operand → Option (List TV)
  | [], [] => some []
  | hs :: hss, x :: xs => match tvH hs (st.ev x), zdE st hss xs with
    | some y, some ys => some (y :: ys)
    | _, _ => none
  | _, _ => none
section
variable {P : Program} {cx : Cx} {o : Oper} {st : St} {L : Loc} {I I' : Nat → Nat → Prop} {a : Act} {w w' : World}
theorem znP (h : SimD cx L I st a w) : ∀ {hss : List (List Nat)} {xs : List Operand} {ys : List TV}, zdE st hss xs = some ys → VRs w L st.hp I (xs.map a.eval) (ys.map TV.toV)
  | [], [], ys, hy => by cases hy; trivial
  | hs :: hss, x :: xs, ys, hy => by
    simp only [zdE] at hy
    split at hy
    · rename_i y ys' h1 h2
      cases hy
      exact ⟨tvH_R (h.ev x) h1, znP h h2⟩
    · cases hy
  | [], _ :: _, _, hy => by cases hy
  | _ :: _, [], _, hy => by cases hy
theorem SimD.after (h : SimD cx L I st a w) (hb : Below w.heap.size w w') (h1 : ∀ b o, I b o → I' b o) (h2 : ∀ b o, I' b o → I b o ∨ w.heap.size ≤ b) (h3 : ∀ b o, I' b o → b < w'.heap.size) : SimD cx L I' st a w' := by
  have k : Keep none w w' L L st.hp st.hp I I' :=
    ⟨h1, fun b o hbo => hb.cell (p := ⟨b, o, none⟩) (h.ib b o hbo), fun j _ hs => ⟨hs, rfl⟩, fun j e sz es fz _ hl => ⟨es, fz, hl, Nat.le_refl _, rfl⟩⟩
  refine h.step k (fun j e => by cases e) (hb.mono h.below.size) ?_ h3 h.inj ?_ (fun D o hD _ => (hb.block _ (Array.getElem?_eq_some_iff.1 hD).1).trans hD) rfl
  · intro b o hbo
    rcases h2 b o hbo with h' | h'
    · exact h.i1 b o h'
    · exact .inr (Nat.le_trans h.below.size h')
  · intro j b hl
    have hlt := (h.hp j b hl).lt
    refine BR.keep k (h.hp j b hl) (Blk.free_none _) (hb.block _ hlt.2) rfl rfl (fun o ho => ?_)
    rcases h2 _ o ho with h' | h'
    · exact h'
    · omega
theorem qtY {x : Operand} {args : List Operand} {tys : Array TypeId} {f : FuncId} (ho : o.op = .call { callee := .value x, args := args.toArray, argTypes := tys }) (hx : a.eval x = .func (.func f) #[] #[])
    (hc : qjV P f = true) : (execOp a.eval o).run P w = .ok (.enter f (args.map a.eval).toArray) w := by
  unfold qjV at hc
  split at hc
  · rename_i fn hfn
    simp only [Bool.and_eq_true, Bool.not_eq_true', Option.isSome_iff_ne_none] at hc
    have hb : fn.body.isNone = false := by cases hbb : fn.body <;> simp_all
    simp only [execOp, ho, resolve, hx, Deferred.ofValue, Sem.run_bind, Sem.run_pure, Result.andThen_ok, invoke, callFunc, run_program, hfn, hc.1, hb]
    simp
  · cases hc
theorem zyM {x : Operand} {args : List Operand} {tys : Array TypeId} {f : FuncId} {hss : List (List Nat)} {ys : List TV} {res : TV} (ho : o.op = .call { callee := .value x, args := args.toArray, argTypes := tys })
    (hx : st.ev x = .c (.t (.fn f))) (hc : qjV P f = true) (hargs : zdE st hss args = some ys) (hh : qc7 P f ys res) : OpOK P cx o st (st.put? o.dst res.toV) := by
  intro hd a w hsim K Q hK
  obtain ⟨L, I, h⟩ := hsim
  have hf : a.eval x = .func (.func f) #[] #[] := by
    have := h.ev x
    rw [hx] at this
    exact Rep.fn_inv this
  have hrun := qtY (P := P) (w := w) ho hf hc
  have hcalls := hh I w (args.map a.eval) h.ib (VRs.reT (znP h hargs))
  unfold Oper.wp
  rw [hrun, Oper.upon_enter]
  refine Calls.mono hcalls fun e w' he => ?_
  obtain ⟨v, rfl, hb, I', h1, h2, h3, hv⟩ := he
  have h' := h.after hb h1 h2 h3
  exact hK _ _ (ql9 h' (VR.reT hv) hd)
def qqC (r : Option Nat) : Fence := { Fence.wide with round := r }
theorem zoB {r : Option Nat} {n : Nat} {row : String} {args : Array Value} {w : World} {R : Value → World → Prop} (h : Rows P row args w R) : RowsIn (qqC r) n P row args w R :=
  fun c cs _ => let ⟨v, w', hr, s⟩ := h c cs; ⟨v, w', hr, (stepsIn_wide).2 s⟩
theorem zaR {r : Option Nat} {n : Nat} {f : FuncId} {args : Array Value} {w : World} {R : Ending → World → Prop} (h : Calls P f args w R) : CallsIn (qqC r) n P f args w R :=
  show CallsIn Fence.wide n P f args w R from callsIn_wide.2 h
theorem zsI {r : Option Nat} {n : Nat} {o : Oper} {a : Act} {N N' : Act → World → Prop} {Q : Exit → Act → World → Prop} (hN : ∀ a w, N a w → N' a w) (res : Result Next) (h : o.upon P a N Q res) : o.uponIn (qqC r) n P a N' Q res := by
  unfold Oper.upon at h
  split at h
  · exact hN _ _ h
  · exact hN _ _ h
  · exact hN _ _ h
  · refine ⟨fun hd => by simp [qqC, Fence.wide] at hd, zaR (Calls.mono h fun e w' he => ?_)⟩
    cases e with
    | returned v => exact hN _ _ he
    | panicked c => exact he
    | outgrown => exact he
  · exact ⟨fun hd => by simp [qqC, Fence.wide] at hd, zoB (Rows.mono h fun v w' he => hN _ _ he)⟩
  · exact h
  · exact h.elim
def q66 (o : Oper) : Bool := match o.op with | .defer _ => false | _ => true
theorem zoO {o : Oper} (h : q66 o = true) : ∀ c, o.op ≠ .defer c := by
  intro c e
  unfold q66 at h
  rw [e] at h
  cases h
theorem opIn {r : Option Nat} {o : Oper} {a : Act} {w : World} {K : Act → World → Prop} {Q : Exit → Act → World → Prop} (hnd : q66 o = true) (h : o.wp P a w K Q) : o.wpIn (qqC r) 2 P a w K Q := by
  refine ⟨fun _ _ => trivial, ?_⟩
  rw [Oper.semAt_eq _ _ _ (zoO hnd)]
  exact zsI (fun _ _ h => h) _ h
def Dst (cx : Cx) (o : Oper) : Prop := q66 o = true ∧ ∀ t, o.dst = some t → t < cx.n
def qm6 (P : Program) (cx : Cx) (ops : Array Oper) (l : List Oper) (st : St) (R : St → Prop) : Prop :=
  (∀ o ∈ l, Dst cx o) → ∀ a w, Sim cx st a w → ∀ Q : Exit → Act → World → Prop, (∀ st' a' w', R st' → Sim cx st' a' w' → Q .normal a' w') → wpListIn (qqC cx.rd) 2 P ops Q l a w
variable {ops : Array Oper} {l : List Oper} {st' : St} {R : St → Prop}
theorem zs2 (h : R st) : qm6 P cx ops [] st R := fun _ _ _ hs _ hQ => wpListIn_nil (hQ _ _ _ h hs)
theorem q2N (hg : o.guard = none) (ho : OpOK P cx o st st') (hr : qm6 P cx ops l st' R) : qm6 P cx ops (o :: l) st R := fun hd a w hs Q hQ =>
  wpListIn_plain hg fun K hK => opIn (hd o (by simp)).1 <| ho (hd o (by simp)).2 a w hs K Q fun a' w' hs' => hK _ _ (hr (fun o ho => hd o (by simp [ho])) a' w' hs' Q hQ)
def zdU (ops : Array Oper) (st : St) (g : Nat) : Option Bool :=
  match (ops[g]?).bind (·.dst) with
  | some t => match st.tm.lookup t with
    | some (.c (.t (.bool b))) => some b
    | _ => none
  | none => none
theorem zp3 (h : SimD cx L I st a w) {g : Nat} {b : Bool} (hg : zdU ops st g = some b) : yielded ops a.tmps g = some b := by
  unfold zdU at hg
  split at hg
  · rename_i t ht
    split at hg
    · rename_i b' hl
      cases hg
      obtain ⟨hv, htn⟩ := h.tm t _ hl
      have hb : a.tmps.getD t undef = .bool b := Rep.bool_inv hv
      have hlt : t < a.tmps.size := by rw [h.size]; exact htn
      unfold yielded
      rw [ht]
      simp only [Option.bind_some]
      have : a.tmps[t]? = some (.bool b) := by
        rw [Array.getElem?_eq_getElem hlt]
        simp [hlt] at hb
        rw [hb]
      rw [this]
    · cases hg
  · cases hg
theorem zs1 {g : Nat} {b : Bool} (hg : o.guard = some (g, b)) (hb : zdU ops st g = some b) (ho : OpOK P cx o st st') (hr : qm6 P cx ops l st' R) : qm6 P cx ops (o :: l) st R := fun hd a w hs Q hQ => by
  refine wpListIn_step fun K hK => ?_
  have hw : Region.wanted o (yielded ops a.tmps) = true := by
    obtain ⟨L, I, h⟩ := hs
    simp [Region.wanted, hg, zp3 h hb]
  rw [if_pos hw]
  exact opIn (hd o (by simp)).1 <| ho (hd o (by simp)).2 a w hs K Q fun a' w' hs' => hK _ _ (hr (fun o ho => hd o (by simp [ho])) a' w' hs' Q hQ)
theorem run_no {g : Nat} {b b' : Bool} (hg : o.guard = some (g, b)) (hb : zdU ops st g = some b') (hne : (b' == b) = false) (hr : qm6 P cx ops l (st.put? o.dst (.tup [])) R) : qm6 P cx ops (o :: l) st R := fun hd a w hs Q hQ => by
  refine wpListIn_step fun K hK => ?_
  have hw : ¬ Region.wanted o (yielded ops a.tmps) = true := by
    obtain ⟨L, I, h⟩ := hs
    simp [Region.wanted, hg, zp3 h hb]
    intro e; subst e; simp at hne
  rw [if_neg hw]
  obtain ⟨L, I, h⟩ := hs
  exact ⟨fun _ _ => trivial, hK _ _ (hr (fun o ho => hd o (by simp [ho])) _ w (ql9 (o := o) (v := .tup []) h ⟨#[], rfl, trivial⟩ (hd o (by simp)).2) Q hQ)⟩
def yV : V → Option (Option Bool)
  | .c (.t (.bool b)) => some (some b)
  | .tup [] => some none
  | _ => none
theorem yV_R (h : SimD cx L I st a w) {g t : Nat} {v : V} {yb : Option Bool} (ht : (ops[g]?).bind (·.dst) = some t) (hl : st.tm.lookup t = some v) (hy : yV v = some yb) : yielded ops a.tmps g = yb := by
  unfold yV at hy
  split at hy
  · rename_i b
    cases hy
    refine zp3 h ?_
    unfold zdU
    rw [ht]
    simp only
    rw [hl]
  · cases hy
    obtain ⟨hv, htn⟩ := h.tm t _ hl
    obtain ⟨cs, hc, _⟩ := hv
    have hlt : t < a.tmps.size := by rw [h.size]; exact htn
    unfold yielded
    rw [ht]
    simp only [Option.bind_some]
    have : a.tmps[t]? = some (.tuple cs) := by
      rw [Array.getElem?_eq_getElem hlt]
      simp [hlt] at hc
      rw [hc]
    rw [this]
  · cases hy
theorem zu4 {g t : Nat} {b : Bool} {v : V} {yb : Option Bool} (hg : o.guard = some (g, b)) (ht : (ops[g]?).bind (·.dst) = some t) (hl : st.tm.lookup t = some v) (hy : yV v = some yb) (hne : yb ≠ some b)
    (hr : qm6 P cx ops l (st.put? o.dst (.tup [])) R) : qm6 P cx ops (o :: l) st R := fun hd a w hs Q hQ => by
  refine wpListIn_step fun K hK => ?_
  obtain ⟨L, I, h⟩ := hs
  have hw : ¬ Region.wanted o (yielded ops a.tmps) = true := by
    simp [Region.wanted, hg, yV_R h ht hl hy, hne]
  rw [if_neg hw]
  exact ⟨fun _ _ => trivial, hK _ _ (hr (fun o ho => hd o (by simp [ho])) _ w (ql9 (o := o) (v := .tup []) h ⟨#[], rfl, trivial⟩ (hd o (by simp)).2) Q hQ)⟩
theorem qrM (hp : ∀ a w, Sim cx st a w → Sim cx st' a w) (hr : qm6 P cx ops l st' R) : qm6 P cx ops l st R := fun hd a w hs Q hQ => hr hd a w (hp a w hs) Q hQ
def AW (P : Program) (cx : Cx) (c : Code) (st : St) (Q : Exit → St → Prop) : Prop :=
  ∀ a w, Sim cx st a w → c.wpIn (qqC cx.rd) 2 P (fun e a' w' => ∃ st', Q e st' ∧ Sim cx st' a' w') a w
variable {Q : Exit → St → Prop} {x y : Code}
def q3Y (n : Nat) (l : List Oper) : Bool := l.all fun o => q66 o && match o.dst with | some t => t < n | none => true
theorem zjC {n : Nat} {l : List Oper} (h : q3Y n l = true) (hn : cx.n = n) : ∀ o ∈ l, Dst cx o := by
  intro o ho
  simp only [q3Y, List.all_eq_true, Bool.and_eq_true] at h
  refine ⟨(h o ho).1, fun t ht => ?_⟩
  have := (h o ho).2
  rw [ht] at this
  rw [hn]; simpa using this
theorem zo9 {id n : Nat} {l : List Oper} (hn : cx.n = n) (hd : q3Y n l = true) (h : qm6 P cx l.toArray l st (Q .normal)) : AW P cx (.region id l.toArray false) st Q := fun a w hs =>
  wpIn_region_lit (h (zjC hd hn) a w hs _ fun st' _ _ hR hs' => ⟨st', hR, hs'⟩)
def zx3 (N : St → Prop) (Q : Exit → St → Prop) : Exit → St → Prop
  | .normal, s => N s
  | e, s => Q e s
theorem aw_seq (h : AW P cx x st (zx3 (fun s => AW P cx y s Q) Q)) : AW P cx (.seq x y) st Q := fun a w hs =>
  wpIn_seq (wpIn_mono (h a w hs) fun e a' w' ⟨s, h1, h2⟩ => by
    cases e with
    | normal => exact h1 a' w' h2
    | _ => exact ⟨s, h1, h2⟩)
theorem zy5 {c : Operand} {b : Bool} (hc : st.ev c = .c (.t (.bool b))) (ht : b = true → AW P cx x st Q) (hf : b = false → AW P cx y st Q) : AW P cx (.cond c x y) st Q := fun a w hs => by
  obtain ⟨L, I, h⟩ := hs
  exact wpIn_cond_split (q7V h hc) (fun e => ht e a w ⟨L, I, h⟩) (fun e => hf e a w ⟨L, I, h⟩)
def zuB (id : Nat) (Q : Exit → St → Prop) : Exit → St → Prop
  | .exit id', s => if id' = id then Q .normal s else Q (.exit id') s
  | e, s => Q e s
theorem zv6 {id : Nat} (h : AW P cx x st (zuB id Q)) : AW P cx (.block id x) st Q := fun a w hs =>
  wpIn_block (wpIn_mono (h a w hs) fun e _ _ ⟨s, h1, h2⟩ => by
    cases e with
    | exit id' =>
      simp only [Exit.inBlock, zuB] at h1 ⊢
      split
      · rename_i e; rw [if_pos e] at h1; exact ⟨s, h1, h2⟩
      · rename_i e; rw [if_neg e] at h1; exact ⟨s, h1, h2⟩
    | _ => exact ⟨s, h1, h2⟩)
theorem zy3 (h : Q .normal st) : AW P cx .skip st Q := fun _ _ hs => wpIn_skip ⟨st, h, hs⟩
theorem zy4 {id : Nat} (h : Q (.exit id) st) : AW P cx (.exit id) st Q := fun _ _ hs => wpIn_exit ⟨st, h, hs⟩
theorem aw_ret (h : Q .ret st) : AW P cx .ret st Q := fun _ _ hs => wpIn_ret ⟨st, h, hs⟩
theorem zv5 {l : Nat} (h : Q .normal st) : AW P cx (.label l) st Q := fun _ _ hs => wpIn_label ⟨st, h, hs⟩
end
open Go.RowKit (Below)
def ztO : Nat → List TV → List (Nat × V)
  | _, [] => []
  | k, x :: xs => (k, x.toV) :: ztO (k + 1) xs
theorem qxX : ∀ (xs : List TV) (k t : Nat) (v : V), (ztO k xs).lookup t = some v → k ≤ t ∧ ∃ x, xs[t - k]? = some x ∧ v = x.toV
  | [], _, _, _, h => by simp [ztO] at h
  | x :: xs, k, t, v, h => by
    simp only [ztO, qcV] at h
    split at h
    · rename_i e; subst e; cases h
      exact ⟨Nat.le_refl _, x, by simp, rfl⟩
    · obtain ⟨h1, y, h2, h3⟩ := qxX xs (k + 1) t v h
      refine ⟨by omega, y, ?_, h3⟩
      rw [show t - k = (t - (k + 1)) + 1 by omega]
      simpa using h2
def St.init (xs : List TV) : St := { tm := ztO 0 xs, hp := [], ex := [] }
theorem VRs.get {w : World} {L : Loc} {H : List (Nat × Blk)} {I : Nat → Nat → Prop} : ∀ {vs : List Value} {xs : List V}, VRs w L H I vs xs → ∀ {k : Nat} {x : V}, xs[k]? = some x → ∃ v, vs[k]? = some v ∧ VR w L H I v x
  | v :: vs, y :: ys, h, 0, x, hx => by
    simp at hx; subst hx
    exact ⟨v, rfl, h.1⟩
  | v :: vs, y :: ys, h, k + 1, x, hx => by simpa using VRs.get h.2 (k := k) (by simpa using hx)
  | [], _ :: _, h, _, _, _ => h.elim
  | _ :: _, [], h, _, _, _ => h.elim
  | [], [], _, _, _, hx => by simp at hx
theorem VRs.length {w : World} {L : Loc} {H : List (Nat × Blk)} {I : Nat → Nat → Prop} : ∀ {vs : List Value} {xs : List V}, VRs w L H I vs xs → vs.length = xs.length
  | [], [], _ => rfl
  | _ :: _, _ :: _, h => by simp [VRs.length h.2]
  | [], _ :: _, h => h.elim
  | _ :: _, [], h => h.elim
def resV (P : Program) (st : St) : ResultVar → Option V
  | .tmp t => st.tm.lookup t
  | .cell a ty => match st.tm.lookup a with
    | some (.c (.ptr j k)) => match st.hp.lookup j, qpC P ty with
      | some (.var cs), some (true, n) => if ((cs.drop k).take n).length = n then some (.agg ((cs.drop k).take n)) else none
      | some (.var cs), some (false, _) => (cs[k]?).map .c
      | _, _ => none
    | _ => none
def resU (P : Program) (st : St) : List (List Nat) → List ResultVar → Option (List (Bool × List T))
  | [], [] => some []
  | hs :: hss, r :: rs => match (resV P st r).bind (uH hs), resU P st hss rs with
    | some u, some us => some (u :: us)
    | _, _ => none
  | _, _ => none
def resT : List (Bool × List T) → Option TV
  | [(true, xs)] => some (.agg xs)
  | [(false, [x])] => some (.c x)
  | [_] => none
  | us => some (.tup us)
def q0O (a : Act) : ResultVar → Sem Value
  | .tmp t => pure (a.tmps.getD t undef)
  | .cell p ty => do loadVar ty (← asAddr (a.tmps.getD p undef))
section
variable {P : Program} {cx : Cx} {st : St} {L : Loc} {I I' : Nat → Nat → Prop} {a : Act} {w w' : World}
theorem zqY (h : SimD cx L I st a w) {r : ResultVar} {x : V} (hx : resV P st r = some x) :
    ∃ v, (q0O a r).run P w = .ok v w ∧ VR w L st.hp I v x := by
  cases r with
  | tmp t => exact ⟨_, rfl, (h.tm t x hx).1⟩
  | cell p ty =>
    simp only [resV] at hx
    split at hx
    · rename_i j k hp
      have hv : VR w L st.hp I (a.tmps.getD p undef) (.c (.ptr j k)) := (h.tm p _ hp).1
      split at hx
      · rename_i cs n hj hl
        split at hx
        · rename_i hlen
          cases hx
          obtain ⟨_, _, arr, t', hg, hcs⟩ := h.hp j _ hj
          have hptr : a.tmps.getD p undef = .pointer (some ⟨L.m j, k, none⟩) := hv (by rw [hj]; rfl)
          have hd := (hcs.drop k).take n
          have hl' := hd.length
          refine ⟨.agg ((arr.toList.drop k).take n).toArray, ?_, _, rfl, by simpa using hd⟩
          have hrun := qzW hl w (L.m j) k ((arr.toList.drop k).take n) (by rw [hl']; exact hlen) (fun i v hi => by
            rw [qyC hg]
            rw [List.getElem?_take] at hi
            split at hi
            · simpa [List.getElem?_drop] using hi
            · cases hi)
          simp only [Instr.loadAt, Instr.sureAddr, Sem.run_bind, Sem.run_pure, Result.andThen_ok] at hrun
          simp only [q0O, hptr, asAddr, Sem.run_bind, Sem.run_pure, Result.andThen_ok, hrun]
        · cases hx
      · rename_i cs n hj hl
        cases hc : cs[k]? with
        | none => simp [hc] at hx
        | some c =>
          simp [hc] at hx; subst hx
          obtain ⟨_, _, arr, t', hg, hcs⟩ := h.hp j _ hj
          have hptr : a.tmps.getD p undef = .pointer (some ⟨L.m j, k, none⟩) := hv (by rw [hj]; rfl)
          obtain ⟨v, h1, _, h3⟩ := hcs.get hc
          refine ⟨v, ?_, h3⟩
          have hcell : w.cell? ⟨L.m j, k, none⟩ = some v := by rw [qyC hg]; simpa using h1
          have hrun := qzV hl w _ v hcell
          simp only [Instr.loadAt, Instr.sureAddr, Sem.run_bind, Sem.run_pure, Result.andThen_ok] at hrun
          simp only [q0O, hptr, asAddr, Sem.run_bind, Sem.run_pure, Result.andThen_ok, hrun]
      · cases hx
    · cases hx
theorem zw1 (h : SimD cx L I st a w) : ∀ {hss : List (List Nat)} {rs : List ResultVar} {us : List (Bool × List T)}, resU P st hss rs = some us →
    ∃ vs : List Value, (rs.mapM (q0O a)).run P w = .ok vs w ∧ URs w L st.hp I vs (us.map fun p => (p.1, p.2.map .t))
  | [], [], us, hu => by cases hu; exact ⟨[], rfl, trivial⟩
  | hs :: hss, r :: rs, us, hu => by
    simp only [resU] at hu
    split at hu
    · rename_i u us' h1 h2
      cases hu
      obtain ⟨x, h3, h4⟩ := Option.bind_eq_some_iff.1 h1
      obtain ⟨v, g1, g2⟩ := zqY h h3
      obtain ⟨vs, g3, g4⟩ := zw1 h h2
      refine ⟨v :: vs, ?_, uH_R g2 h4, g4⟩
      simp only [List.mapM_cons, Sem.run_bind]
      rw [g1]
      simp only [Result.andThen_ok]
      rw [g3]
      rfl
    · cases hu
  | [], _ :: _, _, hu => by cases hu
  | _ :: _, [], _, hu => by cases hu
def Ends (P : Program) (fn : Func) (hss : List (List Nat)) (res : TV) : Exit → St → Prop
  | .normal, s | .ret, s => (resU P s hss fn.results.toList).bind resT = some res
  | _, _ => False
theorem zs5 (h : SimD cx L I st a w) {fn : Func} {hss : List (List Nat)} {res : TV} (hr : (resU P st hss fn.results.toList).bind resT = some res) :
    ∃ v, (results fn a.tmps).run P w = .ok v w ∧ VR w L st.hp I v res.toV := by
  obtain ⟨us, h1, h2⟩ := Option.bind_eq_some_iff.1 hr
  obtain ⟨vs, g1, g2⟩ := zw1 h h1
  have hm : (fn.results.mapM (q0O a)).run P w = .ok vs.toArray w := by
    rw [Array.mapM_eq_mapM_toList]
    simp only [Sem.run_map, g1, Result.andThen_ok]
  have hlen : vs.length = us.length := by
    have : ∀ {vs : List Value} {us : List (Bool × List C)}, URs w L st.hp I vs us → vs.length = us.length := by
      intro vs
      induction vs with
      | nil => intro us h; cases us with
        | nil => rfl
        | cons => exact h.elim
      | cons v vs ih => intro us h; cases us with
        | nil => exact h.elim
        | cons u us => simp [ih h.2]
    simpa using this g2
  have hres : (results fn a.tmps).run P w = .ok (if hz : vs.toArray.size = 1 then vs.toArray[0] else .tuple vs.toArray) w := by
    have he : results fn a.tmps = (fn.results.mapM (q0O a)) >>= fun vs => pure (if h : vs.size = 1 then vs[0] else .tuple vs) := by
      unfold results
      congr 1
    rw [he, Sem.run_bind, hm]
    rfl
  refine ⟨_, hres, ?_⟩
  unfold resT at h2
  split at h2
  · cases h2
    obtain ⟨v, rfl⟩ : ∃ v, vs = [v] := by cases vs with
      | nil => simp at hlen
      | cons v vs => cases vs with
        | nil => exact ⟨v, rfl⟩
        | cons => simp at hlen
    exact g2.1
  · cases h2
    obtain ⟨v, rfl⟩ : ∃ v, vs = [v] := by cases vs with
      | nil => simp at hlen
      | cons v vs => cases vs with
        | nil => exact ⟨v, rfl⟩
        | cons => simp at hlen
    obtain ⟨y, e, hy⟩ := g2.1
    simp only [List.map_cons, List.map_nil, List.cons.injEq, and_true] at e
    subst e
    exact hy
  · cases h2
  · rename_i h3 h4 h5
    cases h2
    have hne : vs.length ≠ 1 := by
      intro e
      rw [e] at hlen
      cases us with
      | nil => simp at hlen
      | cons u us => cases us with
        | nil => exact h5 u rfl
        | cons => simp at hlen
    rw [dif_neg (by simpa using hne)]
    exact ⟨_, rfl, by simpa using g2⟩
theorem SimD.take {D : Nat} {ds : List Nat} (h : SimD cx L I st a w) (hL : L.ds = D :: ds) : SimD cx { L with ds := ds } I st { a with defers := zm7 ds } (w.putObj D (.deferred none)) := by
  obtain ⟨nd, hm⟩ := h.mks
  rw [hL] at nd hm
  obtain ⟨hD, hge, hks⟩ := hm D (List.mem_cons_self ..)
  have hlt := (Array.getElem?_eq_some_iff.1 hD).1
  have oth : ∀ k, k ≠ D → (w.putObj D (.deferred none)).heap[k]? = w.heap[k]? := fun k hk => World.putObj_heap_other hk
  have hsz : (w.putObj D (.deferred none)).heap.size = w.heap.size := by simp [World.putObj]
  have k : Keep none w (w.putObj D (.deferred none)) L { L with ds := ds } st.hp st.hp I I := by
    refine ⟨fun _ _ h => h, fun b o _ => ?_, fun j _ hs => ⟨hs, rfl⟩, fun j e sz es fz _ hl => ⟨es, fz, hl, Nat.le_refl _, rfl⟩⟩
    by_cases e : b = D
    · subst e
      simp only [World.cell?, World.putObj_heap_same hlt, hD]
    · simp only [World.cell?, oth b e]
  have ne : ∀ j b, st.hp.lookup j = some b → L.m j ≠ D := fun j b hl e => by
    have := h.hp j b hl
    cases b with
    | var cs => obtain ⟨_, _, c, ty, h3, _⟩ := this; rw [e, hD] at h3; cases h3
    | row e' sz es fz => obtain ⟨_, _, _, _, _, _, c, h7, _⟩ := this; rw [e, hD] at h7; cases h7
  exact {
    below := h.below.trans ((Below.refl _ w).grown (grownBy_putObj' w D _) (by rw [← hsz]; exact Nat.le_trans h.below.size (Nat.le_of_eq hsz.symm)) (fun k e => by cases e; exact hge))
    i0 := h.i0
    i1 := h.i1
    ib := fun b o hb => by rw [hsz]; exact h.ib b o hb
    inj := h.inj
    hp := fun j b hl => BR.keep k (h.hp j b hl) (Blk.free_none _) (oth _ (ne j b hl)) rfl rfl (fun o ho => ho)
    tm := fun t v hl => by
      obtain ⟨h1, h2⟩ := h.tm t v hl
      exact ⟨k.v (V.free_none v) h1, h2⟩
    ex := k.vs (qgB _) h.ex
    defers := rfl
    kp := ⟨h.kp.1, fun p hp => let ⟨h1, h2⟩ := h.kp.2 p hp; ⟨(oth _ (hks p hp)).trans h1, h2⟩⟩
    mks := ⟨(List.nodup_cons.1 nd).2, fun D' hD' => by
      obtain ⟨h1, h2, h3⟩ := hm D' (List.mem_cons_of_mem _ hD')
      exact ⟨(oth _ (fun e => (List.nodup_cons.1 nd).1 (e ▸ hD'))).trans h1, h2, h3⟩⟩
    size := h.size }
theorem qzC {fn : Func} {R : Ending → World → Prop} {n : Nat} : ∀ (ds : List Nat) (L : Loc) (a : Act) (w : World), SimD cx L I st a w → L.ds = ds →
    (∀ L' w', SimD cx L' I st { a with defers := [] } w' → L'.ds = [] → L'.m = L.m → L'.cp = L.cp → ∃ v, (results fn a.tmps).run P w' = .ok v w' ∧ R (.returned v) w') → LeavesInM Fence.wide n P fn a.tmps R a.defers .returning w
  | [], L, a, w, h, hL, hR => by
    have hd := h.defers
    rw [hL] at hd
    rw [hd]
    have e : ({ a with defers := [] } : Act) = a := by cases a; simp only [Act.mk.injEq, true_and]; exact hd.symm
    exact hR L w (by rw [e]; exact h) hL rfl rfl
  | D :: ds, L, a, w, h, hL, hR => by
    have hd := h.defers
    rw [hL] at hd
    rw [hd]
    have hm := h.mks.2 D (by rw [hL]; exact List.mem_cons_self ..)
    refine ⟨by simp, .inl ⟨D, _, rfl, run_takeDeferred hm.1, ?_⟩⟩
    exact qzC ds { L with ds := ds } { a with defers := zm7 ds } _ (h.take hL) rfl fun L' w' h1 h2 h3 h4 => hR L' w' h1 h2 h3 h4
theorem zq6 {f : FuncId} {fn : Func} {c : Code} {n : Nat} {args : List TV} {res : TV} (hss : List (List Nat)) (hf : P.funcs[f]? = some fn) (hb : fn.body = some c) (hn : fn.ntmps = n) (hl : args.length ≤ n)
    (h : ∀ cx : Cx, cx.n = n → cx.rd = none → AW P cx c (St.init args) (Ends P fn hss res)) : qc7 P f args res := by
  intro I w vs hI hvs
  refine callsIn_wide.1 (callsIn_of_wp_marks (n := 2) hf hb trivial ?_)
  let cx : Cx := ⟨w, I, [], n, none, []⟩
  have hlen : vs.length = args.length := by have := VRs.length hvs; simpa using this
  have hsim : Sim cx (St.init args) { tmps := vs.toArray ++ Array.replicate (fn.ntmps - vs.toArray.size) undef, defers := [] } w := by
    refine ⟨L0, I, ?_⟩
    exact {
      below := Below.refl _ _
      i0 := fun _ _ h => h
      i1 := fun _ _ h => .inl h
      ib := hI
      inj := fun j j' b b' h => by simp [St.init] at h
      hp := fun j b h => by simp [St.init] at h
      tm := fun t v ht => by
        obtain ⟨_, x, h1, rfl⟩ := qxX args 0 t v ht
        simp only [Nat.sub_zero] at h1
        have hx : (args.map TV.toV)[t]? = some x.toV := by simp [h1]
        obtain ⟨u, g1, g2⟩ := VRs.get hvs hx
        have htl : t < vs.length := (List.getElem?_eq_some_iff.1 g1).1
        refine ⟨?_, by show t < n; omega⟩
        have : (vs.toArray ++ Array.replicate (fn.ntmps - vs.toArray.size) undef).getD t undef = u := by
          have e1 : (vs.toArray ++ Array.replicate (fn.ntmps - vs.toArray.size) undef)[t]? = some u := by
            rw [Array.getElem?_append_left (by simpa using htl)]; simpa using g1
          simp only [Array.getD_eq_getD_getElem?, e1, Option.getD_some]
        rw [this]
        exact VR.reT g2
      ex := trivial
      defers := rfl
      kp := ⟨List.nodup_nil, fun _ h => by cases h⟩
      mks := ⟨List.nodup_nil, fun _ h => by cases h⟩
      size := by simp [hn]; show _ = n; omega }
  refine wpIn_mono (h cx rfl rfl _ w hsim) ?_
  intro e a' w' ⟨s, hq, L, I', hs⟩
  have fin : (resU P s hss fn.results.toList).bind resT = some res → LeavesInM Fence.wide 2 P fn a'.tmps (fun e w' => ∃ v', e = .returned v' ∧ Below w.heap.size w w' ∧ ∃ I' : Nat → Nat → Prop, (∀ b o, I b o → I' b o) ∧ (∀ b o, I' b o → I b o ∨ w.heap.size ≤ b) ∧
      (∀ b o, I' b o → b < w'.heap.size) ∧ TVR w' I' v' res) a'.defers .returning w' := by
    intro hr
    refine qzC L.ds L a' w' hs rfl fun L' w' hs _ _ _ => ?_
    obtain ⟨v, h1, h2⟩ := zs5 (P := P) hs hr
    exact ⟨v, h1, v, rfl, hs.below, I', hs.i0, hs.i1, hs.ib, VR.reT h2⟩
  cases e with
  | normal => exact fin hq
  | ret => exact fin hq
  | _ => exact hq.elim
theorem Sim.snapCell {jb k j e sz fz off len : Nat} {cs : List C} {es : List (List T)} (hs : Sim cx st a w) (hb : st.hp.lookup jb = some (.var cs)) (hk : cs[k]? = some (.row j off len)) (hj : st.hp.lookup j = some (.row e sz es fz)) :
    Sim cx ((st.addB j (.row e sz es (max fz (off + len)))).addB jb (.var (cs.set k (.t (.sl sz ((es.drop off).take len)))))) a w := by
  obtain ⟨L, I, h⟩ := hs
  have hne : jb ≠ j := fun e => by subst e; rw [hb] at hj; cases hj
  have h2 := h.freeze (n := off + len) hj
  obtain ⟨_, _, arr0, ty0, hg0, hcs0⟩ := h.hp jb _ hb
  obtain ⟨v, _, hv1, hv⟩ := hcs0.get hk
  obtain ⟨g1, g2⟩ := hv e sz es fz hj
  obtain ⟨_, _, hcp, _⟩ := h.hp j _ hj
  have hr := za9 h2 (j := j) (off := off) (len := len) (cap := L.cp j - off) (by rw [St.addB_lookup, if_pos rfl]) g1 (by omega) (fun o ho => .inr ⟨rfl, ho⟩)
  have hb2 : (st.addB j (.row e sz es (max fz (off + len)))).hp.lookup jb = some (.var cs) := by rw [St.addB_lookup, if_neg hne]; exact hb
  obtain ⟨q1, q2, arr, ty, hg, hcs⟩ := h2.hp jb _ hb2
  have hget := hcs.get hk
  have hself : w.setRow (L.m jb) arr = w := by rw [setRow_self w _ arr ty (0, 0) hg]
  have := h2.write (b' := .var (cs.set k (.t (.sl sz ((es.drop off).take len))))) (arr' := arr) hb2 hg (fun e' sz' es' fz' he => by cases he) (fun _ _ => rfl) (fun kk => by
    refine ⟨q1, q2, arr, ty, setRow_heap w _ arr _ ty _ hg, ?_⟩
    have hc' := kk.cs (qpE _) hcs
    obtain ⟨u, hu1, hu2, hu3⟩ := hcs.get hk
    have hu : u = v := by
      have : arr0 = arr := by rw [hg0] at hg; cases hg; rfl
      subst this
      obtain ⟨v', hv', _, _⟩ := hcs0.get hk
      obtain ⟨r1, r2⟩ := hu3 e sz es (max fz (off + len)) (by rw [St.addB_lookup, if_pos rfl])
      rw [r2, g2]
    have hset := CRs.set hc' k (v := u) (x := .t (.sl sz ((es.drop off).take len))) hu2 (by rw [hu, g2]; exact kk.rep hr)
    have hsame : arr.toList.set k u = arr.toList := by
      apply List.ext_getElem?
      intro i
      rw [List.getElem?_set]
      split
      · rename_i e; subst e
        split
        · exact hu1.symm
        · rename_i hlt; rw [List.getElem?_eq_none (by omega)]
      · rfl
    rw [hsame] at hset
    exact hset)
  rw [hself] at this
  exact ⟨L, _, this⟩
end
open Go.RowKit (Below)
def zjQ (b : Bool) : V := .c (.t (.bool b))
def intV (k : IntKind) (n : Int) : V := .c (.t (.int k n))
def binI (op : BinOp) (k : IntKind) (m n : Int) : Option V :=
  match op with
  | .add => some (intV k (k.wrap (m + n)))
  | .sub => some (intV k (k.wrap (m - n)))
  | .mul => some (intV k (k.wrap (m * n)))
  | .quo => if n = 0 then none else some (intV k (k.wrap (m.tdiv n)))
  | .rem => if n = 0 then none else some (intV k (m.tmod n))
  | .and => some (intV k (bits .and k m n))
  | .or => some (intV k (bits .or k m n))
  | .xor => some (intV k (bits .xor k m n))
  | .andNot => some (intV k (bits .andNot k m n))
  | .eql => some (zjQ (decide (m = n)))
  | .neq => some (zjQ (!decide (m = n)))
  | .lss => some (zjQ (decide (m < n)))
  | .leq => some (zjQ (decide (m ≤ n)))
  | .gtr => some (zjQ (decide (n < m)))
  | .geq => some (zjQ (decide (n ≤ m)))
  | _ => none
def ztL (P : Program) (t : TypeId) : Bool := match P.underlying t with | some .bool => true | _ => false
def zvM (P : Program) (t : TypeId) : Bool := match P.underlying t with | some .string => true | _ => false
def zi6 (P : Program) (t : TypeId) : Option IntKind := match P.underlying t with | some (.int k) => some k | _ => none
def qpW (P : Program) (hp : List (Nat × Blk)) (ev : Operand → V) : Op → Option V
  | .move x => some (ev x)
  | .assign x => some (ev x)
  | .pick c x y => match ev c, ev x, ev y with
    | .c (.t (.bool b)), .c (.t (.bool p)), .c (.t (.bool q)) => some (zjQ (if b then p else q))
    | .c (.t (.bool b)), vx, vy => match b with | true => some vx | false => some vy
    | _, _, _ => none
  | .binOp op t x y _ => match ev x, ev y with
    | .c (.t (.int k m)), .c (.t (.int k' n)) => match op with
      | .shl => if n < 0 then none else some (intV k (qi3 k m n))
      | .shr => if n < 0 then none else some (intV k (qdG k m n))
      | _ => if k = k' then binI op k m n else none
    | .c (.t (.bool p)), .c (.t (.bool q)) => match op, ztL P t with
      | .eql, true => some (zjQ (p == q))
      | .neq, true => some (zjQ (!(p == q)))
      | _, _ => none
    | _, _ => none
  | .unOp op _ x => match op, ev x with
    | .not, .c (.t (.bool b)) => some (zjQ (!b))
    | .neg, .c (.t (.int k n)) => some (intV k (k.wrap (0 - n)))
    | .xor, .c (.t (.int k n)) => some (intV k (bits .xor k (if k.signed then -1 else k.max) n))
    | _, _ => none
  | .convert s t x => match ev x, (P.underlying s).isSome, zi6 P t with
    | .c (.t (.int _ n)), true, some k' => some (intV k' (k'.wrap n))
    | _, _, _ => none
  | .fieldAddr s x f => match ev x, qvV P s f with
    | .c (.ptr j k), some off => if (hp.lookup j).isSome then some (.c (.ptr j (k + off))) else none
    | .c (.rptr j i k), some off => match hp.lookup j with | some (.row ..) => some (.c (.rptr j i (k + off))) | _ => none
    | .c (.ep el k), some off => some (.c (.ep el (k + off)))
    | _, _ => none
  | .indexAddr t x ix => match ev x, ev ix, zaS P t with
    | .c (.ptr j q), .c (.t (.int _ i)), some (n, sz) => if 0 ≤ i ∧ i < n ∧ (hp.lookup j).isSome then some (.c (.ptr j (q + i.toNat * sz))) else none
    | .c (.rptr j r q), .c (.t (.int _ i)), some (n, sz) => if 0 ≤ i ∧ i < n then match hp.lookup j with | some (.row ..) => some (.c (.rptr j r (q + i.toNat * sz))) | _ => none else none
    | .c (.ep el q), .c (.t (.int _ i)), some (n, sz) => if 0 ≤ i ∧ i < n then some (.c (.ep el (q + i.toNat * sz))) else none
    | _, _, _ => none
  | .load t x => match ev x, qpC P t with
    | .c (.ptr j k), some (false, _) => match hp.lookup j with | some (.var cs) => (cs[k]?).map .c | _ => none
    | .c (.ptr j k), some (true, n) => match hp.lookup j with | some (.var cs) => if ((cs.drop k).take n).length = n then some (.agg ((cs.drop k).take n)) else none | _ => none
    | .c (.ep el k), some (false, _) => (el[k]?).map fun y => .c (.t y)
    | .c (.ep el k), some (true, n) => if ((el.drop k).take n).length = n then some (.agg (((el.drop k).take n).map .t)) else none
    | _, _ => none
  | .extract x n => match ev x with
    | .tup xs => (xs[n]?).map uV
    | _ => none
  | .build t parts => match ziJ P t with
    | some (pl, zs) => match (parts.toList.mapM fun p => ((ev p.2).cellsL hp).map fun xs => (p.1, xs)) with
      | some qs => (znH (pl[·]?) zs qs).map .agg
      | none => none
    | none => none
  | .makeFunc (.func f) first captured => if first = #[] ∧ captured = #[] then some (.c (.t (.fn f))) else none
  | .call { callee := .builtin b, args, argTypes } => match b, args.toList, argTypes.toList with
    | .len, [x], [t] => match ev x with
      | .c (.t (.sl _ es)) => if (qjW P t).isSome then some (intV .i64 es.length) else none
      | .c (.row j _ len) => match hp.lookup j, (qjW P t).isSome with | some (.row ..), true => some (intV .i64 len) | _, _ => none
      | .c .nil => if (qjW P t).isSome then some (intV .i64 0) else none
      | .c (.t (.str s)) => if zvM P t then some (intV .i64 s.size) else none
      | _ => none
    | .min, [x, y], [_, _] => match ev x, ev y with
      | .c (.t (.int k m)), .c (.t (.int k' n)) => if k = k' then some (intV k (min m n)) else none
      | _, _ => none
    | .max, [x, y], [_, _] => match ev x, ev y with
      | .c (.t (.int k m)), .c (.t (.int k' n)) => if k = k' then some (intV k (max m n)) else none
      | _, _ => none
    | _, _, _ => none
  | _ => none
section
variable {P : Program} {cx : Cx} {o : Oper} {st : St}
theorem ziM {t : TypeId} (h : ztL P t = true) : P.underlying t = some .bool := by
  unfold ztL at h
  split at h
  · assumption
  · cases h
theorem zmB {t : TypeId} (h : zvM P t = true) : P.underlying t = some .string := by
  unfold zvM at h
  split at h
  · assumption
  · cases h
theorem zlO {t : TypeId} {k : IntKind} (h : zi6 P t = some k) : P.underlying t = some (.int k) := by
  unfold zi6 at h
  split at h
  · cases h; assumption
  · cases h
theorem zdV (st : St) : ∀ (ps : List (Nat × Operand)), qtV st ps = ps.mapM fun p => ((st.ev p.2).cellsL st.hp).map fun xs => (p.1, xs)
  | [] => rfl
  | (i, x) :: rest => by
    simp only [qtV, List.mapM_cons, zdV st rest]
    cases (st.ev x).cellsL st.hp with
    | none => rfl
    | some xs =>
      cases (rest.mapM fun p => ((st.ev p.2).cellsL st.hp).map fun xs => (p.1, xs)) <;> rfl
theorem y_binI {op : BinOp} {t t' : TypeId} {x y : Operand} {k : IntKind} {m n : Int} {v : V} (ho : o.op = .binOp op t x y t') (hx : st.ev x = intV k m) (hy : st.ev y = intV k n) (h : binI op k m n = some v) : qe2 P cx o st v := by
  cases op <;> simp only [binI] at h
  case add => cases h; exact y_add ho hx hy
  case sub => cases h; exact y_sub ho hx hy
  case mul => cases h; exact y_mul ho hx hy
  case quo => split at h; cases h; cases h; exact y_quo ho hx hy (by assumption)
  case rem => split at h; cases h; cases h; exact y_rem ho hx hy (by assumption)
  case and => cases h; exact zqF ho (.inl rfl) hx hy
  case or => cases h; exact zqF ho (.inr (.inl rfl)) hx hy
  case xor => cases h; exact zqF ho (.inr (.inr (.inl rfl))) hx hy
  case andNot => cases h; exact zqF ho (.inr (.inr (.inr rfl))) hx hy
  case eql => cases h; exact zrQ (op := .eql) ho (by simp) hx hy
  case neq => cases h; exact zrQ (op := .neq) ho (by simp) hx hy
  case lss => cases h; exact zrQ (op := .lss) ho (by simp) hx hy
  case leq => cases h; exact zrQ (op := .leq) ho (by simp) hx hy
  case gtr => cases h; exact zrQ (op := .gtr) ho (by simp) hx hy
  case geq => cases h; exact zrQ (op := .geq) ho (by simp) hx hy
  all_goals cases h
theorem zsC {v : V} (h : qpW P st.hp st.ev o.op = some v) : qe2 P cx o st v := by
  cases hop : o.op with
  | move x => rw [hop] at h; simp only [qpW] at h; cases h; exact zwH hop rfl
  | assign x => rw [hop] at h; simp only [qpW] at h; cases h; exact zuR hop rfl
  | pick c x y =>
    rw [hop] at h; simp only [qpW] at h
    split at h
    · rename_i b p q h1 h2 h3
      cases h
      exact zxP hop h1 (fun _ => h2) (fun _ => h3)
    · rename_i b vx vy h1 _
      split at h
      · cases h; exact zlR (b := true) hop h1 rfl
      · cases h; exact zlR (b := false) hop h1 rfl
    · cases h
  | binOp op t x y t' =>
    rw [hop] at h; simp only [qpW] at h
    split at h
    · rename_i k m k' n h1 h2
      split at h
      · split at h
        · cases h
        · cases h; exact y_shl hop h1 h2 (by omega)
      · split at h
        · cases h
        · cases h; exact y_shr hop h1 h2 (by omega)
      · split at h
        · rename_i e; subst e; exact y_binI hop h1 h2 h
        · cases h
    · rename_i p q h1 h2
      split at h
      · cases h; exact y_eqB hop (ziM (by assumption)) h1 h2
      · cases h; exact y_neB hop (ziM (by assumption)) h1 h2
      · cases h
    · cases h
  | unOp op t x =>
    rw [hop] at h; simp only [qpW] at h
    split at h
    · rename_i h1; cases h; exact y_not hop h1
    · rename_i h1; cases h; exact y_neg hop h1
    · rename_i h1; cases h; exact y_xorU hop h1
    · cases h
  | convert s t x =>
    rw [hop] at h; simp only [qpW] at h
    split at h
    · rename_i h1 h2 h3; cases h; exact y_conv hop h2 (zlO h3) h1
    · cases h
  | fieldAddr s x f =>
    rw [hop] at h; simp only [qpW] at h
    split at h
    · rename_i h1 h2
      split at h
      · cases h; exact zpG hop h2 h1 (by assumption)
      · cases h
    · rename_i h1 h2
      split at h
      · cases h; exact znS hop h2 h1 (by assumption)
      · cases h
    · rename_i h1 h2; cases h; exact znT hop h2 h1
    · cases h
  | indexAddr t x ix =>
    rw [hop] at h; simp only [qpW] at h
    split at h
    · rename_i h1 h2 h3
      split at h
      · rename_i hc; cases h; exact zqE hop h3 h1 hc.2.2 h2 hc.1 hc.2.1
      · cases h
    · rename_i h1 h2 h3
      split at h
      · rename_i hc
        split at h
        · cases h; exact znQ hop h3 h1 (by assumption) h2 hc.1 hc.2
        · cases h
      · cases h
    · rename_i h1 h2 h3
      split at h
      · rename_i hc; cases h; exact znR hop h3 h1 h2 hc.1 hc.2
      · cases h
    · cases h
  | load t x =>
    rw [hop] at h; simp only [qpW] at h
    split at h
    · rename_i h1 h2
      split at h
      · rename_i hj
        obtain ⟨c, h3, rfl⟩ := Option.map_eq_some_iff.1 h
        exact zwI hop h2 h1 hj h3
      · cases h
    · rename_i h1 h2
      split at h
      · rename_i hj
        split at h
        · rename_i hl; cases h; exact zxS hop h2 h1 hj rfl hl
        · cases h
      · cases h
    · rename_i h1 h2
      obtain ⟨c, h3, rfl⟩ := Option.map_eq_some_iff.1 h
      exact zxR hop h2 h1 h3
    · rename_i h1 h2
      split at h
      · rename_i hl; cases h; exact zuQ hop h2 h1 rfl hl
      · cases h
    · cases h
  | extract x n =>
    rw [hop] at h; simp only [qpW] at h
    split at h
    · rename_i h1
      obtain ⟨u, h3, rfl⟩ := Option.map_eq_some_iff.1 h
      exact zsD hop h1 h3
    · cases h
  | build t parts =>
    rw [hop] at h; simp only [qpW] at h
    split at h
    · rename_i pl zs hl
      split at h
      · rename_i qs hq
        obtain ⟨ds, h3, rfl⟩ := Option.map_eq_some_iff.1 h
        exact zxU hop hl ((zdV st _).trans hq) h3
      · cases h
    · cases h
  | makeFunc fn first captured =>
    rw [hop] at h
    cases fn <;> simp only [qpW] at h <;> try cases h
    split at h
    · rename_i hc
      obtain ⟨rfl, rfl⟩ := hc
      cases h
      exact zrN hop
    · cases h
  | call c =>
    obtain ⟨callee, args, argTypes⟩ := c
    rw [hop] at h
    cases callee with
    | builtin b =>
      simp only [qpW] at h
      split at h
      · rename_i x t ha ht
        have ha' : args = #[x] := by rw [← Array.toArray_toList (xs := args), ha]
        have ht' : argTypes = #[t] := by rw [← Array.toArray_toList (xs := argTypes), ht]
        subst ha'; subst ht'
        split at h
        · rename_i h1
          split at h
          · rename_i hs
            obtain ⟨sz, hs⟩ := Option.isSome_iff_exists.1 hs
            cases h; exact zwJ hop hs h1
          · cases h
        · rename_i h1
          split at h
          · rename_i hj hs
            obtain ⟨sz, hs⟩ := Option.isSome_iff_exists.1 hs
            cases h; exact y_lenR hop hs h1 hj
          · cases h
        · rename_i h1
          split at h
          · rename_i hs
            obtain ⟨sz, hs⟩ := Option.isSome_iff_exists.1 hs
            cases h; exact y_lenN hop hs h1
          · cases h
        · rename_i h1
          split at h
          · cases h; exact y_lenS hop (zmB (by assumption)) h1
          · cases h
        · cases h
      · rename_i x y t t' ha ht
        have ha' : args = #[x, y] := by rw [← Array.toArray_toList (xs := args), ha]
        have ht' : argTypes = #[t, t'] := by rw [← Array.toArray_toList (xs := argTypes), ht]
        subst ha'; subst ht'
        split at h
        · rename_i h1 h2
          split at h
          · rename_i e; subst e; cases h; exact y_min2 hop h1 h2
          · cases h
        · cases h
      · rename_i x y t t' ha ht
        have ha' : args = #[x, y] := by rw [← Array.toArray_toList (xs := args), ha]
        have ht' : argTypes = #[t, t'] := by rw [← Array.toArray_toList (xs := argTypes), ht]
        subst ha'; subst ht'
        split at h
        · rename_i h1 h2
          split at h
          · rename_i e; subst e; cases h; exact y_max2 hop h1 h2
          · cases h
        · cases h
      · cases h
    | _ => simp [qpW] at h
  | _ => rw [hop] at h; simp [qpW] at h
def zyB (P : Program) (ops : Array Oper) (o : Oper) (st : St) : Option St :=
  let run : Option St := match o.op with
    | .alloc t => match o.dst, (P.info? t).bind (·.zero) with
      | some j, some z => if z.cells.all (·.oneCell') && st.free j then some ((st.addB j (.var (z.cells.toList.map qpG))).put j (.c (.ptr j 0))) else none
      | _, _ => none
    | .box _ x => match o.dst, (st.ev x).cellsL st.hp with
      | some j, some xs => if st.free j && qpF (some j) xs then some ((st.addB j (.var xs)).put j (.c (.ptr j 0))) else none
      | _, _ => none
    | .store t p x => match o.dst, st.ev p with
      | none, .c (.ptr j k) => match st.hp.lookup j, (st.ev x).cellsL st.hp, (P.info? t).map (·.size) with
        | some (.var cs), some xs, some n => if xs.length = n ∧ k + n ≤ cs.length then some (st.addB j (.var (qdH cs k xs))) else none
        | _, _, _ => none
      | _, _ => none
    | op => (qpW P st.hp st.ev op).map fun v => st.put? o.dst v
  match o.guard with
  | none => run
  | some (g, b) => match zdU ops st g with
    | some b' => if b' = b then run else some (st.put? o.dst (.tup []))
    | none => none
def runP (P : Program) (ops : Array Oper) : List Oper → St → Option St
  | [], st => some st
  | o :: l, st => (zyB P ops o st).bind (runP P ops l)
variable {ops : Array Oper} {l l' : List Oper} {st' : St} {R : St → Prop}
theorem zu3 (h : zyB P ops o st = some st') (hr : qm6 P cx ops l st' R) : qm6 P cx ops (o :: l) st R := by
  have key : (match o.op with
    | .alloc t => match o.dst, (P.info? t).bind (·.zero) with
      | some j, some z => if z.cells.all (·.oneCell') && st.free j then some ((st.addB j (.var (z.cells.toList.map qpG))).put j (.c (.ptr j 0))) else none
      | _, _ => none
    | .box _ x => match o.dst, (st.ev x).cellsL st.hp with
      | some j, some xs => if st.free j && qpF (some j) xs then some ((st.addB j (.var xs)).put j (.c (.ptr j 0))) else none
      | _, _ => none
    | .store t p x => match o.dst, st.ev p with
      | none, .c (.ptr j k) => match st.hp.lookup j, (st.ev x).cellsL st.hp, (P.info? t).map (·.size) with
        | some (.var cs), some xs, some n => if xs.length = n ∧ k + n ≤ cs.length then some (st.addB j (.var (qdH cs k xs))) else none
        | _, _, _ => none
      | _, _ => none
    | op => (qpW P st.hp st.ev op).map fun v => st.put? o.dst v) = some st' → OpOK P cx o st st' := by
    intro h
    split at h
    · rename_i t hop
      split at h
      · rename_i j z hd hz
        split at h
        · rename_i hc
          simp only [Bool.and_eq_true] at hc
          cases h
          exact zq0 hop hd hz hc.1 rfl hc.2
        · cases h
      · cases h
    · rename_i t x hop
      split at h
      · rename_i j xs hd hx
        split at h
        · rename_i hc
          simp only [Bool.and_eq_true] at hc
          cases h
          exact zw2 hop hd hx hc.1 hc.2
        · cases h
      · cases h
    · rename_i t p x hop
      split at h
      · rename_i j k hd hp
        split at h
        · rename_i cs xs n hj hx hn
          split at h
          · rename_i hc
            cases h
            exact zm4 hop hd hp hj hx hc.1 hn hc.2
          · cases h
        · cases h
      · cases h
    · obtain ⟨v, h1, rfl⟩ := Option.map_eq_some_iff.1 h
      exact zoN (zsC h1)
  unfold zyB at h
  simp only at h
  split at h
  · rename_i hg
    exact q2N hg (key h) hr
  · rename_i g b hg
    split at h
    · rename_i b' hb
      split at h
      · rename_i e; subst e
        exact zs1 hg hb (key h) hr
      · rename_i e
        cases h
        exact run_no hg hb (by simpa using e) hr
    · cases h
theorem zqW : ∀ {l l' : List Oper} {st st' : St}, runP P ops l st = some st' → qm6 P cx ops l' st' R → qm6 P cx ops (l ++ l') st R
  | [], _, _, _, h, hr => by cases h; exact hr
  | o :: l, l', st, st', h, hr => by
    simp only [runP] at h
    obtain ⟨s, h1, h2⟩ := Option.bind_eq_some_iff.1 h
    exact zu3 h1 (zqW h2 hr)
theorem run_pure (n : Nat) (ts js : List Nat) {s s' : St} (h : runP P ops (l.take n) st = some s) (hk : s.keep ts js = s') (hr : qm6 P cx ops (l.drop n) s' R) : qm6 P cx ops l st R := by
  have := zqW (l' := l.drop n) h (qrM (fun a w hs => hk ▸ hs.keep ts js) hr)
  rwa [List.take_append_drop] at this
end
open Go.RowKit (Below)
structure Upd where
  dst : Option (Nat × V)
  bk : Option (Nat × Blk)
def Upd.app (u : Upd) (st : St) : St :=
  let st1 := match u.bk with | some (j, b) => st.addB j b | none => st
  match u.dst with | some (t, v) => st1.put t v | none => st1
def q0A (us : List Upd) (X : Nat → Bool) (k t : Nat) (acc : Option V) : Option V :=
  match us with
  | [] => acc
  | u :: us => q0A us X (k + 1) t (if X k then (match u.dst with | some (t', v) => if t = t' then some v else acc | none => acc) else acc)
def q3O (us : List Upd) (X : Nat → Bool) (k j : Nat) (acc : Option Blk) : Option Blk :=
  match us with
  | [] => acc
  | u :: us => q3O us X (k + 1) j (if X k then (match u.bk with | some (j', b) => if j = j' then some b else acc | none => acc) else acc)
def fold (us : List Upd) (X : Nat → Bool) (k : Nat) (st : St) : St :=
  match us with
  | [] => st
  | u :: us => fold us X (k + 1) (if X k then u.app st else st)
theorem zxK (u : Upd) (st : St) (t : Nat) : (u.app st).tm.lookup t = match u.dst with | some (t', v) => if t = t' then some v else st.tm.lookup t | none => st.tm.lookup t := by
  unfold Upd.app
  cases u.dst with
  | none => cases u.bk <;> rfl
  | some p =>
    simp only
    rw [St.put_lookup]
    cases u.bk <;> rfl
theorem zxL (u : Upd) (st : St) (j : Nat) : (u.app st).hp.lookup j = match u.bk with | some (j', b) => if j = j' then some b else st.hp.lookup j | none => st.hp.lookup j := by
  unfold Upd.app
  cases u.bk with
  | none => cases u.dst <;> rfl
  | some p =>
    cases u.dst <;> exact St.addB_lookup ..
theorem zxM (u : Upd) (st : St) : (u.app st).ex = st.ex := by
  unfold Upd.app
  cases u.bk <;> cases u.dst <;> rfl
theorem zi7 : ∀ (us : List Upd) (X : Nat → Bool) (k : Nat) (st : St) (t : Nat), (fold us X k st).tm.lookup t = q0A us X k t (st.tm.lookup t)
  | [], _, _, _, _ => rfl
  | u :: us, X, k, st, t => by
    simp only [fold, q0A]
    rw [zi7 us X (k + 1) _ t]
    congr 1
    split
    · exact zxK u st t
    · rfl
theorem zi8 : ∀ (us : List Upd) (X : Nat → Bool) (k : Nat) (st : St) (j : Nat), (fold us X k st).hp.lookup j = q3O us X k j (st.hp.lookup j)
  | [], _, _, _, _ => rfl
  | u :: us, X, k, st, j => by
    simp only [fold, q3O]
    rw [zi8 us X (k + 1) _ j]
    congr 1
    split
    · exact zxL u st j
    · rfl
theorem zp4 : ∀ (us : List Upd) (X : Nat → Bool) (k : Nat) (st : St), (fold us X k st).ex = st.ex
  | [], _, _, _ => rfl
  | u :: us, X, k, st => by
    simp only [fold]
    rw [zp4 us X (k + 1)]
    split
    · exact zxM u st
    · rfl
def qvX (us : List Upd) (q t : Nat) : Bool := match us[q]? with | some u => (match u.dst with | some (t', _) => t' == t | none => false) | none => false
def qvY (us : List Upd) (q j : Nat) : Bool := match us[q]? with | some u => (match u.bk with | some (j', _) => j' == j | none => false) | none => false
theorem qtS {X Y : Nat → Bool} {t : Nat} : ∀ (us : List Upd) (k : Nat) (acc : Option V), (∀ q, qvX us q t = true → X (k + q) = Y (k + q)) → q0A us X k t acc = q0A us Y k t acc
  | [], _, _, _ => rfl
  | u :: us, k, acc, h => by
    simp only [q0A]
    have h0 := h 0
    have hr : ∀ q, qvX us q t = true → X (k + 1 + q) = Y (k + 1 + q) := fun q hq => by
      have := h (q + 1) (by simpa [qvX] using hq)
      rw [show k + 1 + q = k + (q + 1) by omega]; exact this
    have he : (if X k = true then (match u.dst with | some (t', v) => if t = t' then some v else acc | none => acc) else acc) = (if Y k = true then (match u.dst with | some (t', v) => if t = t' then some v else acc | none => acc) else acc) := by
      cases hd : u.dst with
      | none => simp
      | some p =>
        obtain ⟨t', v⟩ := p
        by_cases e : t = t'
        · subst e
          have : X k = Y k := by simpa [qvX, hd] using h0
          rw [this]
        · simp [e]
    rw [he]
    exact qtS us (k + 1) _ hr
theorem qtT {X Y : Nat → Bool} {j : Nat} : ∀ (us : List Upd) (k : Nat) (acc : Option Blk), (∀ q, qvY us q j = true → X (k + q) = Y (k + q)) → q3O us X k j acc = q3O us Y k j acc
  | [], _, _, _ => rfl
  | u :: us, k, acc, h => by
    simp only [q3O]
    have h0 := h 0
    have hr : ∀ q, qvY us q j = true → X (k + 1 + q) = Y (k + 1 + q) := fun q hq => by
      have := h (q + 1) (by simpa [qvY] using hq)
      rw [show k + 1 + q = k + (q + 1) by omega]; exact this
    have he : (if X k = true then (match u.bk with | some (t', v) => if j = t' then some v else acc | none => acc) else acc) = (if Y k = true then (match u.bk with | some (t', v) => if j = t' then some v else acc | none => acc) else acc) := by
      cases hd : u.bk with
      | none => simp
      | some p =>
        obtain ⟨t', v⟩ := p
        by_cases e : j = t'
        · subst e
          have : X k = Y k := by simpa [qvY, hd] using h0
          rw [this]
        · simp [e]
    rw [he]
    exact qtT us (k + 1) _ hr
theorem zoS {X : Nat → Bool} {t : Nat} : ∀ (us : List Upd) (k i : Nat) (acc : Option V) (u : Upd), us[i]? = some u → (∀ q, i < q → qvX us q t = true → X (k + q) = false) →
    q0A us (fun q => X q || q == k + i) k t acc = match u.dst with | some (t', v) => if t = t' then some v else q0A us X k t acc | none => q0A us X k t acc
  | [], _, _, _, _, h, _ => by simp at h
  | u0 :: us, k, 0, acc, u, h, hX => by
    simp at h; subst h
    simp only [q0A, Nat.add_zero, beq_self_eq_true, Bool.or_true, if_true]
    have hrest : ∀ acc', q0A us (fun q => X q || q == k) (k + 1) t acc' = q0A us X (k + 1) t acc' := fun acc' => qtS us (k + 1) acc' fun q _ => by
      have : (k + 1 + q == k) = false := by simp; omega
      simp [this]
    rw [hrest]
    cases hd : u0.dst with
    | none => simp
    | some p =>
      obtain ⟨t', v⟩ := p
      by_cases e : t = t'
      · subst e
        simp only [if_true]
        have hno : ∀ acc', q0A us X (k + 1) t acc' = q0A us (fun _ => false) (k + 1) t acc' := fun acc' => qtS us (k + 1) acc' fun q hq => by
          have := hX (q + 1) (by omega) (by simpa [qvX] using hq)
          rw [show k + 1 + q = k + (q + 1) by omega]; exact this
        rw [hno]
        have hf : ∀ (us : List Upd) (k : Nat) (acc : Option V), q0A us (fun _ => false) k t acc = acc := by
          intro us
          induction us with
          | nil => intros; rfl
          | cons u us ih => intro k acc; simp [q0A, ih]
        exact hf _ _ _
      · simp [e]
  | u0 :: us, k, i + 1, acc, u, h, hX => by
    simp only [q0A]
    have hk : (k == k + (i + 1)) = false := by simp
    simp only [hk, Bool.or_false]
    have := zoS (X := X) (t := t) us (k + 1) i (if X k = true then (match u0.dst with | some (t', v) => if t = t' then some v else acc | none => acc) else acc) u (by simpa using h) (fun q hq hw => by
      rw [show k + 1 + q = k + (q + 1) by omega]; exact hX (q + 1) (by omega) (by simpa [qvX] using hw))
    rw [show k + 1 + i = k + (i + 1) by omega] at this
    exact this
theorem zoT {X : Nat → Bool} {j : Nat} : ∀ (us : List Upd) (k i : Nat) (acc : Option Blk) (u : Upd), us[i]? = some u → (∀ q, i < q → qvY us q j = true → X (k + q) = false) →
    q3O us (fun q => X q || q == k + i) k j acc = match u.bk with | some (j', b) => if j = j' then some b else q3O us X k j acc | none => q3O us X k j acc
  | [], _, _, _, _, h, _ => by simp at h
  | u0 :: us, k, 0, acc, u, h, hX => by
    simp at h; subst h
    simp only [q3O, Nat.add_zero, beq_self_eq_true, Bool.or_true, if_true]
    have hrest : ∀ acc', q3O us (fun q => X q || q == k) (k + 1) j acc' = q3O us X (k + 1) j acc' := fun acc' => qtT us (k + 1) acc' fun q _ => by
      have : (k + 1 + q == k) = false := by simp; omega
      simp [this]
    rw [hrest]
    cases hd : u0.bk with
    | none => simp
    | some p =>
      obtain ⟨t', v⟩ := p
      by_cases e : j = t'
      · subst e
        simp only [if_true]
        have hno : ∀ acc', q3O us X (k + 1) j acc' = q3O us (fun _ => false) (k + 1) j acc' := fun acc' => qtT us (k + 1) acc' fun q hq => by
          have := hX (q + 1) (by omega) (by simpa [qvY] using hq)
          rw [show k + 1 + q = k + (q + 1) by omega]; exact this
        rw [hno]
        have hf : ∀ (us : List Upd) (k : Nat) (acc : Option Blk), q3O us (fun _ => false) k j acc = acc := by
          intro us
          induction us with
          | nil => intros; rfl
          | cons u us ih => intro k acc; simp [q3O, ih]
        exact hf _ _ _
      · simp [e]
  | u0 :: us, k, i + 1, acc, u, h, hX => by
    simp only [q3O]
    have hk : (k == k + (i + 1)) = false := by simp
    simp only [hk, Bool.or_false]
    have := zoT (X := X) (j := j) us (k + 1) i (if X k = true then (match u0.bk with | some (t', v) => if j = t' then some v else acc | none => acc) else acc) u (by simpa using h) (fun q hq hw => by
      rw [show k + 1 + q = k + (q + 1) by omega]; exact hX (q + 1) (by omega) (by simpa [qvY] using hw))
    rw [show k + 1 + i = k + (i + 1) by omega] at this
    exact this
def q72 (st σ : St) : List Operand → Prop
  | [] => True
  | x :: xs => σ.ev x = st.ev x ∧ q72 st σ xs
def zd1 (st σ : St) : List Nat → Prop
  | [] => True
  | j :: js => σ.hp.lookup j = st.hp.lookup j ∧ zd1 st σ js
def Eff (P : Program) (cx : Cx) (o : Oper) (st : St) (rk fresh : List Nat) (u : Upd) : Prop :=
  ∀ σ : St, q72 st σ o.op.operands.toList → zd1 st σ rk → (∀ j ∈ fresh, σ.free j = true) → OpOK P cx o σ (u.app σ)
def EffG (P : Program) (cx : Cx) (ops : Array Oper) (o : Oper) (st : St) (rk fresh : List Nat) (u : Upd) : Prop :=
  match o.guard with
  | none => Eff P cx o st rk fresh u
  | some (g, b) => ∃ t v yb, (ops[g]?).bind (·.dst) = some t ∧ st.tm.lookup t = some v ∧ yV v = some yb ∧ (if yb = some b then Eff P cx o st rk fresh u else u = ⟨o.dst.map fun d => (d, .tup []), none⟩)
def zoE (ops : Array Oper) (o : Oper) : List Nat :=
  (o.op.operands.toList.filterMap fun x => match x with | .tmp t => some t | _ => none) ++
  (match o.guard with | some (g, _) => ((ops[g]?).bind (·.dst)).toList | none => [])
structure Inf where
  rk : List Nat
  fresh : List Nat
  u : Upd
def zdZ (P : Program) (cx : Cx) (ops : Array Oper) (TP : List Oper → St → Prop) : List Oper → List Inf → St → Prop
  | l, [], st => TP l st
  | o :: l, i :: is, st => EffG P cx ops o st i.rk i.fresh i.u ∧ zdZ P cx ops TP l is (i.u.app st)
  | [], _ :: _, _ => False
def zdD : List Oper → List Nat → List Nat
  | [], acc => acc
  | o :: os, acc => zdD os (acc ++ [o.after.toList.foldl (fun s e => if Region.binds .any e then s ||| 2 ^ e.on ||| acc.getD e.on 0 else s) 0])
def qzQ (ops : List Oper) (X : Nat → Bool) : Prop := ∀ j o, ops[j]? = some o → X j = true → ∀ e ∈ o.after, Region.binds .any e = true → X e.on = true
theorem zmC {acc : List Nat} {i : Nat} : ∀ (es : List Edge) (s : Nat), (es.foldl (fun s e => if Region.binds .any e then s ||| 2 ^ e.on ||| acc.getD e.on 0 else s) s).testBit i = true →
    s.testBit i = true ∨ ∃ e ∈ es, Region.binds .any e = true ∧ (e.on = i ∨ (acc.getD e.on 0).testBit i = true)
  | [], s, h => .inl h
  | e :: es, s, h => by
    simp only [List.foldl_cons] at h
    rcases zmC es _ h with h1 | ⟨e', he, hb, hr⟩
    · split at h1
      · rename_i hbind
        simp only [Nat.testBit_or, Bool.or_eq_true] at h1
        rcases h1 with (h1 | h1) | h1
        · exact .inl h1
        · right; refine ⟨e, by simp, hbind, .inl ?_⟩
          rw [Nat.testBit_two_pow] at h1
          simpa using h1
        · exact .inr ⟨e, by simp, hbind, .inr h1⟩
      · exact .inl h1
    · exact .inr ⟨e', by simp [he], hb, hr⟩
theorem qx3 {ops : List Oper} {X : Nat → Bool} (hX : qzQ ops X) : ∀ (os : List Oper) (acc : List Nat), (∀ q o, os[q]? = some o → ops[acc.length + q]? = some o) →
    (∀ j i, (acc.getD j 0).testBit i = true → X j = true → X i = true) → ∀ j i, ((zdD os acc).getD j 0).testBit i = true → X j = true → X i = true
  | [], acc, _, hacc, j, i, h, hj => hacc j i h hj
  | o :: os, acc, hos, hacc, j, i, h, hj => by
    refine qx3 hX os _ (fun q o' hq => ?_) ?_ j i h hj
    · have := hos (q + 1) o' (by simpa using hq)
      simpa [Nat.add_assoc, Nat.add_comm 1] using this
    · intro j' i' hb hj'
      by_cases hlt : j' < acc.length
      · rw [List.getD_eq_getElem?_getD, List.getElem?_append_left hlt, ← List.getD_eq_getElem?_getD] at hb
        exact hacc j' i' hb hj'
      · by_cases he : j' = acc.length
        · subst he
          rw [List.getD_eq_getElem?_getD, List.getElem?_append_right (Nat.le_refl _)] at hb
          simp only [Nat.sub_self, List.getElem?_cons_zero, Option.getD_some] at hb
          rcases zmC _ _ hb with h1 | ⟨e, he, hbind, hr⟩
          · simp at h1
          · have hXe := hX _ o (hos 0 o rfl) hj' e (by simpa using he) hbind
            rcases hr with rfl | hr
            · exact hXe
            · exact hacc _ _ hr hXe
        · rw [List.getD_eq_getElem?_getD, List.getElem?_eq_none (by simp; omega)] at hb
          simp at hb
open Go.RowKit (Below)
def Upd.wT (u : Upd) : Option Nat := u.dst.map (·.1)
def Upd.wB (u : Upd) : Option Nat := u.bk.map (·.1)
def Upd.free (u : Upd) (j : Nat) : Bool :=
  (match u.dst with | some p => p.2.free (some j) | none => true) && (match u.bk with | some p => p.1 == j || p.2.free (some j) | none => true)
def znM (ops : Array Oper) (o : Oper) (i : Inf) (o' : Oper) (i' : Inf) : Bool :=
  (match i.u.wT with | some t => (zoE ops o').contains t || i'.u.wT == some t | none => false) ||
  (match i'.u.wT with | some t => (zoE ops o).contains t | none => false) ||
  (match i.u.wB with | some j => i'.rk.contains j || i'.u.wB == some j | none => false) ||
  (match i'.u.wB with | some j => i.rk.contains j | none => false)
def zjB (l : List Oper) : Bool := (List.range l.length).all fun t => match l[t]? with | some o => o.after.toList.all fun e => !Region.binds .any e || e.on < t | none => true
theorem zdW {l : List Oper} (h : zjB l = true) {t : Nat} {o : Oper} (ho : l[t]? = some o) {e : Edge} (he : e ∈ o.after) (hb : Region.binds .any e = true) : e.on < t := by
  have hlt := (List.getElem?_eq_some_iff.1 ho).1
  simp only [zjB, List.all_eq_true, List.mem_range] at h
  have h1 := h t hlt
  rw [ho] at h1
  simp only [List.all_eq_true] at h1
  have h2 := h1 e (by simpa using he)
  simpa [hb] using h2
def zmD (ops : Array Oper) (is : List Inf) : Bool :=
  let bs := zdD ops.toList []
  let m := is.length
  zjB ops.toList &&
  (List.range m).all (fun j => (List.range j).all fun i =>
    match ops[i]?, is[i]?, ops[j]?, is[j]? with
    | some o, some a, some o', some b => !znM ops o a o' b || (bs.getD j 0).testBit i
    | _, _, _, _ => false) &&
  (List.range ops.size).all (fun t => t < m || (List.range t).all fun i => (bs.getD t 0).testBit i) &&
  (List.range m).all (fun i => match is[i]? with
    | some a => a.fresh.all fun k => (List.range m).all fun q => match is[q]? with
      | some b => q == i || b.u.free k || (bs.getD q 0).testBit i
      | none => false
    | none => false)
def cnt (X : Nat → Bool) : Nat → Nat
  | 0 => 0
  | n + 1 => cnt X n + if X n then 0 else 1
theorem zaO {X Y : Nat → Bool} : ∀ n, (∀ q, q < n → X q = Y q) → cnt X n = cnt Y n
  | 0, _ => rfl
  | n + 1, h => by simp only [cnt, zaO n (fun q hq => h q (by omega)), h n (by omega)]
theorem zt3 {X Y : Nat → Bool} {i : Nat} (hi : X i = false) (hy : Y i = true) (hxy : ∀ q, q ≠ i → Y q = X q) : ∀ n, i < n → cnt Y n + 1 = cnt X n
  | 0, h => by omega
  | n + 1, h => by
    simp only [cnt]
    by_cases e : n = i
    · subst e
      rw [hi, hy, zaO (X := Y) (Y := X) n (fun q hq => hxy q (by omega))]
      simp
    · have ih := zt3 hi hy hxy n (by omega)
      rw [hxy n e]
      omega
theorem zrG {X : Nat → Bool} : ∀ n, cnt X n = 0 → ∀ i, i < n → X i = true
  | 0, _, i, hi => by omega
  | n + 1, h, i, hi => by
    simp only [cnt] at h
    by_cases e : i = n
    · subst e
      cases hx : X i with
      | true => rfl
      | false => simp [hx] at h
    · exact zrG n (by omega) i (by omega)
section
variable {P : Program} {cx : Cx}
theorem SimD.same {st st' : St} {L : Loc} {I : Nat → Nat → Prop} {a : Act} {w : World} (h : SimD cx L I st a w) (ht : ∀ t, st'.tm.lookup t = st.tm.lookup t) (hp : ∀ j, st'.hp.lookup j = st.hp.lookup j) (he : st'.ex = st.ex) :
    SimD cx L I st' a w := h.sub (fun t _ hv => (ht t) ▸ hv) (fun j _ hb => (hp j) ▸ hb) he
theorem zv7 {u : Upd} {st : St} {j : Nat} (h1 : st.free j = true) (h2 : u.free j = true) : (u.app st).free j = true := by
  simp only [Upd.free, Bool.and_eq_true] at h2
  simp only [St.free, Bool.and_eq_true] at h1 ⊢
  unfold Upd.app
  obtain ⟨⟨g1, g2⟩, g3⟩ := h1
  obtain ⟨q1, q2⟩ := h2
  cases hd : u.dst with
  | none =>
    cases hb : u.bk with
    | none => exact ⟨⟨g1, g2⟩, g3⟩
    | some p => simp only [hb] at q2; exact ⟨⟨g1, by simp only [St.addB, List.all_cons, Bool.and_eq_true]; exact ⟨by simpa using q2, g2⟩⟩, g3⟩
  | some d =>
    simp only [hd] at q1
    cases hb : u.bk with
    | none => exact ⟨⟨by simp only [St.put, List.all_cons, Bool.and_eq_true]; exact ⟨q1, g1⟩, g2⟩, g3⟩
    | some p =>
      simp only [hb] at q2
      exact ⟨⟨by simp only [St.put, St.addB, List.all_cons, Bool.and_eq_true]; exact ⟨q1, g1⟩, by simp only [St.put, St.addB, List.all_cons, Bool.and_eq_true]; exact ⟨by simpa using q2, g2⟩⟩, g3⟩
theorem zoX {X : Nat → Bool} {j : Nat} : ∀ (us : List Upd) (k : Nat) (st : St), st.free j = true → (∀ q u, us[q]? = some u → X (k + q) = true → u.free j = true) → (fold us X k st).free j = true
  | [], _, _, h, _ => h
  | u :: us, k, st, h, hu => by
    simp only [fold]
    refine zoX us (k + 1) _ ?_ (fun q v hq hx => hu (q + 1) v (by simpa using hq) (by rw [show k + (q + 1) = k + 1 + q by omega]; exact hx))
    split
    · rename_i hx; exact zv7 h (hu 0 u rfl hx)
    · exact h
theorem qw3 : ∀ (us : List Upd) (i k : Nat) (st : St), fold us (fun q => decide (q < k + i)) k st = (us.take i).foldl (fun s u => u.app s) st
  | [], i, k, st => by simp [fold]
  | u :: us, 0, k, st => by
    have : ∀ (us : List Upd) (k k' : Nat) (st : St), k ≤ k' → fold us (fun q => decide (q < k)) k' st = st := by
      intro us
      induction us with
      | nil => intros; rfl
      | cons u us ih => intro k k' st h; simp only [fold]; rw [ih k (k' + 1) _ (by omega)]; simp; omega
    simp only [Nat.add_zero, List.take_zero, List.foldl_nil]
    exact this _ _ _ _ (Nat.le_refl _)
  | u :: us, i + 1, k, st => by
    simp only [fold, List.take_succ_cons, List.foldl_cons]
    rw [if_pos (by simp)]
    have := qw3 us i (k + 1) (u.app st)
    rw [show k + 1 + i = k + (i + 1) by omega] at this
    exact this
variable {TP : List Oper → St → Prop} {ops : Array Oper}
theorem zoA : ∀ {l : List Oper} {is : List Inf} {st : St}, zdZ P cx ops TP l is st → ∀ {i : Nat} {a : Inf}, is[i]? = some a →
    ∃ o, l[i]? = some o ∧ EffG P cx ops o (((is.map Inf.u).take i).foldl (fun s u => u.app s) st) a.rk a.fresh a.u
  | l, [], st, _, i, a, hi => by simp at hi
  | [], _ :: _, _, h, _, _, _ => h.elim
  | o :: l, b :: is, st, h, 0, a, hi => by
    simp at hi; subst hi
    exact ⟨o, rfl, h.1⟩
  | o :: l, b :: is, st, h, i + 1, a, hi => by
    obtain ⟨o', h1, h2⟩ := zoA h.2 (i := i) (a := a) (by simpa using hi)
    exact ⟨o', by simpa using h1, by simpa using h2⟩
theorem q6X : ∀ {l : List Oper} {is : List Inf} {st : St}, zdZ P cx ops TP l is st → TP (l.drop is.length) ((is.map Inf.u).foldl (fun s u => u.app s) st)
  | l, [], st, h => by
    have h' : TP l st := by cases l <;> exact h
    simpa using h'
  | [], _ :: _, _, h => h.elim
  | o :: l, b :: is, st, h => by simpa using q6X h.2
theorem zmG {st σ : St} : ∀ (xs : List Operand), (∀ t, Operand.tmp t ∈ xs → σ.tm.lookup t = st.tm.lookup t) → q72 st σ xs
  | [], _ => trivial
  | x :: xs, h => by
    refine ⟨?_, zmG xs fun t ht => h t (by simp [ht])⟩
    cases x with
    | tmp t => simp only [St.ev]; rw [h t (by simp)]
    | _ => rfl
theorem zpA {st σ : St} : ∀ (js : List Nat), (∀ j ∈ js, σ.hp.lookup j = st.hp.lookup j) → zd1 st σ js
  | [], _ => trivial
  | j :: js, h => ⟨h j (by simp), zpA js fun i hi => h i (by simp [hi])⟩
theorem zgJ (l : Array Bool) (i q : Nat) (hi : i < l.size) : (l.setIfInBounds i true).getD q false = (l.getD q false || q == i) := by
  simp only [Array.getD_eq_getD_getElem?, Array.getElem?_setIfInBounds]
  by_cases e : i = q
  · subst e; simp [hi]
  · have : (q == i) = false := by simp; omega
    simp [e, this]
theorem zlT {r : Option Nat} {l : List Oper} {Q : Exit → Act → World → Prop} (hops : ops = l.toArray) (hedge : zjB l = true) {m : Nat} (hb : ∀ t, m ≤ t → t < l.length → ∀ i, i < t → ((zdD l []).getD t 0).testBit i = true) :
    ∀ (d t : Nat) (listed : Array Bool) (a : Act) (w : World), l.length - t = d → m ≤ t → t ≤ l.length → listed.size = l.length → (∀ q, q < l.length → listed.getD q false = decide (q < t)) → qzQ l (fun q => listed.getD q false) →
      wpListIn (qqC r) 2 P ops Q (l.drop t) a w → wpAnyIn (qqC r) 2 P .any ops Q d listed a w := by
  intro d
  induction d with
  | zero =>
    intro t listed a w hd hm ht hsz hl hX h
    have htl : t = l.length := by omega
    subst htl
    simp only [List.drop_length, wpListIn] at h
    refine ⟨?_, h⟩
    refine List.eq_nil_iff_forall_not_mem.2 fun j hj => ?_
    obtain ⟨h1, o, h2, _⟩ := mem_ready.1 hj
    have hlt : j < l.length := by rw [hops] at h2; have := (Array.getElem?_eq_some_iff.1 h2).1; simpa using this
    have := hl j hlt
    simp only [hlt, decide_true] at this
    have h3 : listed[j]? = some true := by
      rw [Array.getElem?_eq_getElem (by omega)]
      simp [hsz, hlt] at this
      rw [this]
    simp [h3] at h1
  | succ d ih =>
    intro t listed a w hd hm ht hsz hl hX h
    have hlt : t < l.length := by omega
    have hr : ∀ j, j ∈ Region.ready .any ops listed → j = t := by
      intro j hj
      obtain ⟨h1, o, h2, h3⟩ := mem_ready.1 hj
      have hjl : j < l.length := by rw [hops] at h2; have := (Array.getElem?_eq_some_iff.1 h2).1; simpa using this
      have hnl : listed.getD j false = false := by
        have : listed[j]? = some listed[j] := Array.getElem?_eq_getElem (by omega)
        simp [this] at h1 ⊢; exact h1
      rw [hl j hjl] at hnl
      have hjt : t ≤ j := by simpa using hnl
      by_cases e : j = t
      · exact e
      · exfalso
        have hX' : qzQ l (fun q => listed.getD q false || q == j) := by
          intro q o' hq hx e' he' hb'
          simp only [Bool.or_eq_true, beq_iff_eq] at hx ⊢
          rcases hx with hx | rfl
          · exact .inl (hX q o' hq hx e' he' hb')
          · have : o' = o := by rw [hops] at h2; simp at h2; rw [h2] at hq; cases hq; rfl
            subst this
            exact .inl (h3 e' he' hb')
        have hbt := hb j (by omega) hjl t (by omega)
        have := qx3 hX' l [] (fun q o h => by simpa using h) (by intro j i h; simp at h) j t hbt (by simp)
        simp only [Bool.or_eq_true, beq_iff_eq] at this
        rcases this with h4 | h4
        · rw [hl t hlt] at h4; simp at h4
        · exact e h4.symm
    have hmem : t ∈ Region.ready .any ops listed ∨ Region.ready .any ops listed = [] := by
      cases hrr : Region.ready .any ops listed with
      | nil => exact .inr rfl
      | cons x xs => left; have := hr x (by rw [hrr]; simp); subst this; simp
    have hdrop : l.drop t = l[t] :: l.drop (t + 1) := by rw [List.drop_eq_getElem_cons hlt]
    refine ⟨fun hnil => ?_, fun i hi => ?_⟩
    · -- the next one is always ready
      exfalso
      have : t ∈ Region.ready .any ops listed := by
        refine mem_ready.2 ⟨?_, l[t], by rw [hops]; simp [hlt], fun e he hbind => ?_⟩
        · have h5 := hl t hlt
          have : listed[t]? = some listed[t] := Array.getElem?_eq_getElem (by omega)
          simp [this] at h5 ⊢; exact h5
        · by_cases hon : e.on < t
          · rw [hl _ (by omega)]; simpa using hon
          · exact absurd (zdW hedge (t := t) (List.getElem?_eq_getElem hlt) he hbind) hon
      rw [hnil] at this; cases this
    · have := hr i hi
      subst this
      unfold wpOpIn
      rw [hdrop] at h
      simp only [wpListIn] at h
      have ho : ops[i]? = some l[i] := by rw [hops]; simp [hlt]
      simp only [ho]
      have hnext : ∀ a w, wpListIn (qqC r) 2 P ops Q (l.drop (i + 1)) a w → wpAnyIn (qqC r) 2 P .any ops Q d (listed.setIfInBounds i true) a w := fun a w hh =>
        ih (i + 1) _ a w (by omega) (by omega) (by omega) (by simpa using hsz) (fun q hq => by
          rw [zgJ _ _ _ (by omega), hl q hq]
          by_cases e : q = i
          · subst e; simp
          · have : (q == i) = false := by simpa using e
            simp [this]; omega) (by
          intro q o' hq hx e' he' hb'
          have hx' : (listed.setIfInBounds i true).getD q false = true := hx
          show (listed.setIfInBounds i true).getD e'.on false = true
          rw [zgJ _ _ _ (by omega)] at hx' ⊢
          simp only [Bool.or_eq_true, beq_iff_eq] at hx' ⊢
          rcases hx' with hx | rfl
          · exact .inl (hX q o' hq hx e' he' hb')
          · obtain ⟨_, o2, h2, h3⟩ := mem_ready.1 hi
            rw [ho] at h2; cases h2
            have : o' = l[q] := by rw [List.getElem?_eq_getElem hlt] at hq; cases hq; rfl
            subst this
            exact .inl (h3 e' he' hb')) hh
      split
      · rename_i hw
        rw [if_pos hw] at h
        exact Oper.wpIn_mono hnext h
      · rename_i hw
        rw [if_neg hw] at h
        exact ⟨fun _ _ => trivial, hnext _ _ h.2⟩
theorem q4I {X Y : Nat → Bool} : ∀ (us : List Upd) (k : Nat) (st : St), (∀ q, q < us.length → X (k + q) = Y (k + q)) → fold us X k st = fold us Y k st
  | [], _, _, _ => rfl
  | u :: us, k, st, h => by
    simp only [fold]
    have h0 := h 0 (by simp)
    simp only [Nat.add_zero] at h0
    rw [h0]
    exact q4I us (k + 1) _ fun q hq => by rw [show k + 1 + q = k + (q + 1) by omega]; exact h (q + 1) (by simp; omega)
theorem zxI (m : Nat) : ∀ n, m ≤ n → cnt (fun q => decide (q < m)) n = n - m
  | 0, h => by simp [cnt]
  | n + 1, h => by
    simp only [cnt]
    by_cases e : m = n + 1
    · subst e
      have : cnt (fun q => decide (q < n + 1)) n = 0 := by
        rw [zaO (Y := fun _ => true) n (fun q hq => by simp; omega)]
        clear h
        induction n with
        | zero => rfl
        | succ n ih => simp only [cnt, ih]; rfl
      rw [this]; simp
    · rw [zxI m n (by omega)]
      have : decide (n < m) = false := by simp; omega
      simp [this]; omega
theorem zoZ {l : List Oper} (hops : ops = l.toArray) (hedge : zjB l = true) {listed : Array Bool} (hsz : listed.size = l.length) : ∀ (q : Nat), q < l.length → listed.getD q false = false → ∃ i, i ∈ Region.ready .any ops listed := by
  intro q
  induction q using Nat.strongRecOn with
  | _ q ih =>
    intro hq hx
    by_cases hall : ∀ e ∈ (l[q]).after, Region.binds .any e = true → listed.getD e.on false = true
    · refine ⟨q, mem_ready.2 ⟨?_, l[q], by rw [hops]; simp [hq], hall⟩⟩
      have : listed[q]? = some listed[q] := Array.getElem?_eq_getElem (by omega)
      simp [this] at hx ⊢; exact hx
    · simp only [Classical.not_forall] at hall
      obtain ⟨e, he, hb, hx'⟩ := hall
      have hlt := zdW hedge (t := q) (List.getElem?_eq_getElem hq) he hb
      exact ih e.on hlt (by omega) (by simpa using hx')
theorem zs6 {o : Oper} {t : Nat} (h : Operand.tmp t ∈ o.op.operands.toList) : t ∈ zoE ops o := by
  refine List.mem_append_left _ (List.mem_filterMap.2 ⟨.tmp t, h, rfl⟩)
theorem zoD {o : Oper} {g t : Nat} {b : Bool} (hg : o.guard = some (g, b)) (ht : (ops[g]?).bind (·.dst) = some t) : t ∈ zoE ops o := by
  refine List.mem_append_right _ ?_
  rw [hg]
  simp [ht]
theorem zrR {l : List Oper} {is : List Inf} {st : St} {Q : Exit → Act → World → Prop} (hops : ops = l.toArray) (hc : zmD ops is = true) (hm : is.length ≤ l.length) (hrows : zdZ P cx ops TP l is st)
    (hdst : ∀ o ∈ l, Dst cx o) (hfresh : ∀ i ∈ is, ∀ k ∈ i.fresh, st.free k = true) (hT : ∀ l' st', TP l' st' → (∀ o ∈ l', Dst cx o) → ∀ a w, Sim cx st' a w → wpListIn (qqC cx.rd) 2 P ops Q l' a w) :
    ∀ (fuel : Nat) (listed : Array Bool) (a : Act) (w : World), listed.size = l.length → cnt (fun q => listed.getD q false) l.length = fuel → qzQ l (fun q => listed.getD q false) →
      (∀ t, is.length ≤ t → t < l.length → listed.getD t false = false) → Sim cx (fold (is.map Inf.u) (fun q => listed.getD q false) 0 st) a w → wpAnyIn (qqC cx.rd) 2 P .any ops Q fuel listed a w := by
  have hl : ops.toList = l := by rw [hops]
  have hsize : ops.size = l.length := by rw [hops]; simp
  simp only [zmD, Bool.and_eq_true, List.all_eq_true, List.mem_range, hl, hsize, Bool.or_eq_true, decide_eq_true_eq] at hc
  obtain ⟨⟨⟨hedge, hclash⟩, htail⟩, hnew⟩ := hc
  intro fuel
  induction fuel with
  | zero =>
    intro listed a w hsz hcnt hX hlate hs
    have hall := zrG l.length hcnt
    have hm' : is.length = l.length := by
      rcases Nat.lt_or_ge is.length l.length with h | h
      · have h1 := hall _ h
        have h2 := hlate _ (Nat.le_refl _) h
        rw [h2] at h1; cases h1
      · omega
    have hf : fold (is.map Inf.u) (fun q => listed.getD q false) 0 st = (is.map Inf.u).foldl (fun s u => u.app s) st := by
      rw [q4I (Y := fun q => decide (q < 0 + is.length)) _ _ _ (fun q hq => by
        have hq' : q < is.length := by simpa using hq
        rw [Nat.zero_add, hall q (by omega)]; simp [hq'])]
      have := qw3 (is.map Inf.u) is.length 0 st
      rw [this]
      simp [List.take_of_length_le]
    rw [hf] at hs
    have ht := q6X hrows
    have hw := hT _ _ ht (fun o ho => hdst o (List.mem_of_mem_drop ho)) a w hs
    refine zlT (m := is.length) hops hedge (fun t h1 h2 i h3 => ?_) 0 is.length listed a w (by omega) (Nat.le_refl _) hm hsz (fun q hq => by rw [hall q hq]; simp; omega) hX hw
    rcases htail t h2 with h4 | h4
    · omega
    · exact h4 i h3
  | succ fuel ih =>
    intro listed a w hsz hcnt hX hlate hs
    by_cases hdone : ∀ q, q < is.length → listed.getD q false = true
    · have hXq : ∀ q, q < l.length → listed.getD q false = decide (q < is.length) := by
        intro q hq
        by_cases h : q < is.length
        · rw [hdone q h]; simp [h]
        · rw [hlate q (by omega) hq]; simp [h]
      have hf : fold (is.map Inf.u) (fun q => listed.getD q false) 0 st = (is.map Inf.u).foldl (fun s u => u.app s) st := by
        rw [q4I (Y := fun q => decide (q < 0 + is.length)) _ _ _ (fun q hq => by
          have hq' : q < is.length := by simpa using hq
          rw [Nat.zero_add, hdone q hq']; simp [hq'])]
        have := qw3 (is.map Inf.u) is.length 0 st
        rw [this]
        simp [List.take_of_length_le]
      rw [hf] at hs
      have ht := q6X hrows
      have hw := hT _ _ ht (fun o ho => hdst o (List.mem_of_mem_drop ho)) a w hs
      have hd : l.length - is.length = fuel + 1 := by
        rw [← hcnt, zaO (Y := fun q => decide (q < is.length)) _ hXq, zxI _ _ hm]
      refine zlT (m := is.length) hops hedge (fun t h1 h2 i h3 => ?_) (fuel + 1) is.length listed a w hd (Nat.le_refl _) hm hsz hXq hX hw
      rcases htail t h2 with h4 | h4
      · omega
      · exact h4 i h3
    · simp only [Classical.not_forall] at hdone
      obtain ⟨q0, hq0, hx0⟩ := hdone
      have hx0' : listed.getD q0 false = false := by simpa using hx0
      refine ⟨fun hnil => ?_, fun i hi => ?_⟩
      · obtain ⟨i, hi⟩ := zoZ hops hedge hsz q0 (by omega) hx0'
        rw [hnil] at hi; cases hi
      · obtain ⟨hi1, o, ho, hedges⟩ := mem_ready.1 hi
        have hil : i < l.length := by rw [hops] at ho; have := (Array.getElem?_eq_some_iff.1 ho).1; simpa using this
        have hol : l[i]? = some o := by rw [hops] at ho; simpa using ho
        have hxi : listed.getD i false = false := by
          have : listed[i]? = some listed[i] := Array.getElem?_eq_getElem (by omega)
          simp [this] at hi1 ⊢; exact hi1
        have hset : (fun q => (listed.setIfInBounds i true).getD q false) = fun q => listed.getD q false || q == i := funext fun q => zgJ listed i q (by omega)
        have hX' : qzQ l (fun q => listed.getD q false || q == i) := by
          intro q o' hq hx e' he' hb'
          simp only [Bool.or_eq_true, beq_iff_eq] at hx ⊢
          rcases hx with hx | rfl
          · exact .inl (hX q o' hq hx e' he' hb')
          · have : o' = o := by rw [hol] at hq; cases hq; rfl
            subst this
            exact .inl (hedges e' he' hb')
        have hbef : ∀ q, ((zdD l []).getD i 0).testBit q = true → q ≠ i → listed.getD q false = true := by
          intro q hb hne
          have := qx3 hX' l [] (fun q o h => by simpa using h) (by intro j i h; simp at h) i q hb (by simp)
          simpa [hne] using this
        have haft : ∀ q, ((zdD l []).getD q 0).testBit i = true → listed.getD q false = false := by
          intro q hb
          cases hxq : listed.getD q false with
          | false => rfl
          | true =>
            have := qx3 hX l [] (fun q o h => by simpa using h) (by intro j i h; simp at h) q i hb hxq
            rw [hxi] at this; cases this
        have him : i < is.length := by
          rcases Nat.lt_or_ge i is.length with h | h
          · exact h
          · exfalso
            rcases htail i hil with h4 | h4
            · omega
            · have := hbef q0 (h4 q0 (by omega)) (by omega)
              rw [hx0'] at this; cases this
        obtain ⟨inf, hinf⟩ : ∃ inf, is[i]? = some inf := ⟨_, List.getElem?_eq_getElem him⟩
        obtain ⟨o', ho', heff⟩ := zoA hrows hinf
        rw [hol] at ho'; cases ho'
        -- what clashes with i is ordered
        have hord : ∀ q b oq, is[q]? = some b → l[q]? = some oq → q ≠ i → (q < i → znM ops oq b o inf = true) → (i < q → znM ops o inf oq b = true) → listed.getD q false = decide (q < i) := by
          intro q b oq hb hoq hne h1 h2
          have hql : q < is.length := (List.getElem?_eq_some_iff.1 hb).1
          rcases Nat.lt_or_gt_of_ne hne with h | h
          · have := hclash i him q h
            have hoq' : ops[q]? = some oq := by rw [hops]; simpa using hoq
            rw [hoq', hb, ho, hinf] at this
            simp only [h1 h, Bool.not_true, Bool.false_or] at this
            rw [hbef q this hne]; simp [h]
          · have := hclash q hql i h
            have hoq' : ops[q]? = some oq := by rw [hops]; simpa using hoq
            rw [hoq', hb, ho, hinf] at this
            simp only [h2 h, Bool.not_true, Bool.false_or] at this
            rw [haft q this]; simp; omega
        have hpre : ((is.map Inf.u).take i).foldl (fun s u => u.app s) st = fold (is.map Inf.u) (fun q => decide (q < 0 + i)) 0 st := (qw3 _ i 0 st).symm
        rw [hpre] at heff
        -- temporaries and blocks that i reads hold what they hold in the text's order
        have hT : ∀ t, t ∈ zoE ops o → (fold (is.map Inf.u) (fun q => listed.getD q false) 0 st).tm.lookup t = (fold (is.map Inf.u) (fun q => decide (q < 0 + i)) 0 st).tm.lookup t := by
          intro t ht
          rw [zi7, zi7]
          refine qtS _ _ _ fun q hw => ?_
          simp only [Nat.zero_add]
          unfold qvX at hw
          rw [List.getElem?_map] at hw
          cases hb : is[q]? with
          | none => simp [hb] at hw
          | some b =>
            have hql : q < is.length := (List.getElem?_eq_some_iff.1 hb).1
            by_cases hne : q = i
            · subst hne; rw [hxi]; simp
            · have hwt : b.u.wT = some t := by
                simp only [hb, Option.map_some] at hw
                unfold Upd.wT
                cases hd : b.u.dst with
                | none => simp [hd] at hw
                | some p => simp [hd] at hw; simp [hw]
              exact hord q b l[q] hb (List.getElem?_eq_getElem (by omega)) hne (fun _ => by simp [znM, hwt, ht]) (fun _ => by simp [znM, hwt, ht])
        have hB : ∀ j, j ∈ inf.rk → (fold (is.map Inf.u) (fun q => listed.getD q false) 0 st).hp.lookup j = (fold (is.map Inf.u) (fun q => decide (q < 0 + i)) 0 st).hp.lookup j := by
          intro j hj
          rw [zi8, zi8]
          refine qtT _ _ _ fun q hw => ?_
          simp only [Nat.zero_add]
          unfold qvY at hw
          rw [List.getElem?_map] at hw
          cases hb : is[q]? with
          | none => simp [hb] at hw
          | some b =>
            have hql : q < is.length := (List.getElem?_eq_some_iff.1 hb).1
            by_cases hne : q = i
            · subst hne; rw [hxi]; simp
            · have hwt : b.u.wB = some j := by
                simp only [hb, Option.map_some] at hw
                unfold Upd.wB
                cases hd : b.u.bk with
                | none => simp [hd] at hw
                | some p => simp [hd] at hw; simp [hw]
              exact hord q b l[q] hb (List.getElem?_eq_getElem (by omega)) hne (fun _ => by simp [znM, hwt, hj]) (fun _ => by simp [znM, hwt, hj])
        have hF : ∀ k ∈ inf.fresh, (fold (is.map Inf.u) (fun q => listed.getD q false) 0 st).free k = true := by
          intro k hk
          refine zoX _ _ _ (hfresh inf (List.mem_of_getElem? hinf) k hk) fun q u hq hxq => ?_
          rw [List.getElem?_map] at hq
          cases hb : is[q]? with
          | none => simp [hb] at hq
          | some b =>
            simp [hb] at hq; subst hq
            simp only [Nat.zero_add] at hxq
            have hql : q < is.length := (List.getElem?_eq_some_iff.1 hb).1
            have h1 := hnew i him
            rw [hinf] at h1
            simp only [List.all_eq_true, List.mem_range] at h1
            have h2 := h1 k hk q hql
            rw [hb] at h2
            simp only [Bool.or_eq_true, beq_iff_eq] at h2
            rcases h2 with (h2 | h2) | h2
            · subst h2; rw [hxi] at hxq; cases hxq
            · exact h2
            · have := haft q h2; rw [this] at hxq; cases hxq
        -- behind it
        have hnext : ∀ a' w', Sim cx (inf.u.app (fold (is.map Inf.u) (fun q => listed.getD q false) 0 st)) a' w' → wpAnyIn (qqC cx.rd) 2 P .any ops Q fuel (listed.setIfInBounds i true) a' w' := by
          intro a' w' hs'
          refine ih (listed.setIfInBounds i true) a' w' (by simpa using hsz) ?_ (by rw [hset]; exact hX') ?_ ?_
          · rw [hset]
            have := zt3 (X := fun q => listed.getD q false) (Y := fun q => listed.getD q false || q == i) hxi (by simp) (fun q hq => by simp [hq]) l.length hil
            omega
          · intro t h1 h2
            rw [zgJ _ _ _ (by omega), hlate t h1 h2]
            simp; omega
          · rw [hset]
            obtain ⟨L, I, hs'⟩ := hs'
            refine ⟨L, I, hs'.same (fun t => ?_) (fun j => ?_) ?_⟩
            · rw [zi7, zxK, zi7]
              have := zoS (X := fun q => listed.getD q false) (t := t) (is.map Inf.u) 0 i (st.tm.lookup t) inf.u (by simp [hinf])
              simp only [Nat.zero_add] at this
              cases hd : inf.u.dst with
              | none =>
                simp only [hd] at this
                have h2 : q0A (is.map Inf.u) (fun q => listed.getD q false || q == i) 0 t (st.tm.lookup t) = q0A (is.map Inf.u) (fun q => listed.getD q false) 0 t (st.tm.lookup t) := qtS _ _ _ fun q hw => by
                  simp only [Nat.zero_add]
                  by_cases e : q = i
                  · subst e
                    unfold qvX at hw
                    rw [List.getElem?_map, hinf] at hw
                    simp [hd] at hw
                  · simp [e]
                rw [h2]
              | some p =>
                obtain ⟨t', v⟩ := p
                simp only
                by_cases e : t = t'
                · subst e
                  rw [this (fun q hq hw => ?_), hd]
                  unfold qvX at hw
                  rw [List.getElem?_map] at hw
                  cases hb : is[q]? with
                  | none => simp [hb] at hw
                  | some b =>
                    have hql : q < is.length := (List.getElem?_eq_some_iff.1 hb).1
                    have hwt : b.u.wT = some t := by
                      simp only [hb, Option.map_some] at hw
                      unfold Upd.wT
                      cases hd : b.u.dst with
                      | none => simp [hd] at hw
                      | some p => simp [hd] at hw; simp [hw]
                    have hwi : inf.u.wT = some t := by simp [Upd.wT, hd]
                    have := hord q b l[q] hb (List.getElem?_eq_getElem (by omega)) (by omega) (fun h => by omega) (fun _ => by simp [znM, hwt, hwi])
                    rw [this]; simp; omega
                · rw [if_neg e]
                  exact qtS _ _ _ fun q hw => by
                    simp only [Nat.zero_add]
                    by_cases e' : q = i
                    · subst e'
                      unfold qvX at hw
                      rw [List.getElem?_map, hinf] at hw
                      simp [hd] at hw
                      exact absurd hw.symm e
                    · simp [e']
            · rw [zi8, zxL, zi8]
              have := zoT (X := fun q => listed.getD q false) (j := j) (is.map Inf.u) 0 i (st.hp.lookup j) inf.u (by simp [hinf])
              simp only [Nat.zero_add] at this
              cases hd : inf.u.bk with
              | none =>
                exact qtT _ _ _ fun q hw => by
                  simp only [Nat.zero_add]
                  by_cases e : q = i
                  · subst e
                    unfold qvY at hw
                    rw [List.getElem?_map, hinf] at hw
                    simp [hd] at hw
                  · simp [e]
              | some p =>
                obtain ⟨t', v⟩ := p
                simp only
                by_cases e : j = t'
                · subst e
                  rw [this (fun q hq hw => ?_), hd]
                  unfold qvY at hw
                  rw [List.getElem?_map] at hw
                  cases hb : is[q]? with
                  | none => simp [hb] at hw
                  | some b =>
                    have hql : q < is.length := (List.getElem?_eq_some_iff.1 hb).1
                    have hwt : b.u.wB = some j := by
                      simp only [hb, Option.map_some] at hw
                      unfold Upd.wB
                      cases hd : b.u.bk with
                      | none => simp [hd] at hw
                      | some p => simp [hd] at hw; simp [hw]
                    have hwi : inf.u.wB = some j := by simp [Upd.wB, hd]
                    have := hord q b l[q] hb (List.getElem?_eq_getElem (by omega)) (by omega) (fun h => by omega) (fun _ => by simp [znM, hwt, hwi])
                    rw [this]; simp; omega
                · rw [if_neg e]
                  exact qtT _ _ _ fun q hw => by
                    simp only [Nat.zero_add]
                    by_cases e' : q = i
                    · subst e'
                      unfold qvY at hw
                      rw [List.getElem?_map, hinf] at hw
                      simp [hd] at hw
                      exact absurd hw.symm e
                    · simp [e']
            · rw [zp4, zxM, zp4]
        have hdo : ∀ t, o.dst = some t → t < cx.n := (hdst o (List.mem_of_getElem? hol)).2
        have hndf : q66 o = true := (hdst o (List.mem_of_getElem? hol)).1
        have hAg := zmG (st := fold (is.map Inf.u) (fun q => decide (q < 0 + i)) 0 st) (σ := fold (is.map Inf.u) (fun q => listed.getD q false) 0 st) o.op.operands.toList fun t ht => hT t (zs6 ht)
        have hAb := zpA (st := fold (is.map Inf.u) (fun q => decide (q < 0 + i)) 0 st) (σ := fold (is.map Inf.u) (fun q => listed.getD q false) 0 st) inf.rk hB
        unfold wpOpIn
        rw [ho]
        simp only
        unfold EffG at heff
        cases hg : o.guard with
        | none =>
          simp only [hg] at heff
          rw [if_pos (by simp [Region.wanted, hg])]
          exact opIn hndf (heff _ hAg hAb hF hdo a w hs _ _ hnext)
        | some gb =>
          obtain ⟨g, b⟩ := gb
          simp only [hg] at heff
          obtain ⟨t, v, yb, h1, h2, hyv, h3⟩ := heff
          have hl2 : (fold (is.map Inf.u) (fun q => listed.getD q false) 0 st).tm.lookup t = some v := by rw [hT t (zoD hg h1), h2]
          have hs0 := hs
          obtain ⟨L, I, hsd⟩ := hs0
          have hy := yV_R hsd h1 hl2 hyv
          by_cases e : yb = some b
          · rw [if_pos (by simp [Region.wanted, hg, hy, e])]
            rw [if_pos e] at h3
            exact opIn hndf (h3 _ hAg hAb hF hdo a w hs _ _ hnext)
          · rw [if_neg (by simp [Region.wanted, hg, hy, e])]
            rw [if_neg e] at h3
            refine ⟨fun _ _ => trivial, hnext _ _ ?_⟩
            rw [h3]
            have := ql9 (o := o) (v := .tup []) (val := undef) hsd ⟨#[], rfl, trivial⟩ hdo
            cases hod : o.dst with
            | none => rw [hod] at this; exact this
            | some d => rw [hod] at this; exact this
theorem q8G (n q : Nat) : (Array.replicate n false).getD q false = false := by
  simp only [Array.getD_eq_getD_getElem?, Array.getElem?_replicate]
  split <;> rfl
theorem zd2 {id n : Nat} {l : List Oper} {st : St} {Q : Exit → Act → World → Prop} (is : List Inf) (hmix : P.follows .mixedOrders = true) (hn : cx.n = n) (hd : q3Y n l = true) (hm : is.length ≤ l.length) (hc : zmD l.toArray is = true)
    (hf : is.all (fun i => i.fresh.all fun k => st.free k) = true) (h : zdZ P cx l.toArray TP l is st) (hT : ∀ l' st', TP l' st' → (∀ o ∈ l', Dst cx o) → ∀ a w, Sim cx st' a w → wpListIn (qqC cx.rd) 2 P l.toArray Q l' a w) {a : Act} {w : World} (hs : Sim cx st a w) :
    (Code.region id l.toArray true).wpIn (qqC cx.rd) 2 P Q a w := by
  have hfresh : ∀ i ∈ is, ∀ k ∈ i.fresh, st.free k = true := by
    simp only [List.all_eq_true] at hf
    exact hf
  have hs' : Sim cx st a { w with drawn := w.drawn + 1 } := by obtain ⟨L, I, h⟩ := hs; exact ⟨L, I, h.drew⟩
  refine wpIn_region_any hmix ?_
  refine zrR rfl hc hm h (zjC hd hn) hfresh hT _ _ a _ (by simp) ?_ ?_ ?_ ?_
  · rw [zaO (Y := fun _ => false) _ (fun q _ => q8G _ q)]
    have : ∀ k, cnt (fun _ => false) k = k := by
      intro k
      induction k with
      | zero => rfl
      | succ k ih => simp [cnt, ih]
    rw [this]; simp
  · intro j o _ hx
    rw [show (fun q => (Array.replicate l.toArray.size false).getD q false) j = false from q8G _ j] at hx
    cases hx
  · intro t _ _
    exact q8G _ t
  · rw [q4I (Y := fun q => decide (q < 0 + 0)) _ _ _ (fun q _ => by rw [q8G]; simp), qw3]
    simpa using hs'
theorem q6P {id n : Nat} {l : List Oper} {st : St} {Q : Exit → St → Prop} (is : List Inf) (hmix : P.follows .mixedOrders = true) (hn : cx.n = n) (hd : q3Y n l = true) (hm : is.length ≤ l.length) (hc : zmD l.toArray is = true)
    (hf : is.all (fun i => i.fresh.all fun k => st.free k) = true) (h : zdZ P cx l.toArray (fun l' s => qm6 P cx l.toArray l' s (Q .normal)) l is st) : AW P cx (.region id l.toArray true) st Q := fun _ _ hs =>
  zd2 is hmix hn hd hm hc hf h (fun _ _ ht hds a w hs => ht hds a w hs _ fun st' _ _ hR hs' => ⟨st', hR, hs'⟩) hs
end
open Go.RowKit (Below)
def C.keys : C → List Nat
  | .row j _ _ | .clip j _ _ | .ptr j _ | .rptr j _ _ | .asl j _ _ => [j]
  | _ => []
def V.keys : V → List Nat
  | .c x => x.keys
  | _ => []
def q1F (st : St) (o : Oper) (rk : List Nat) : Bool := o.op.operands.toList.all fun x => (st.ev x).keys.all rk.contains
section
variable {P : Program} {cx : Cx} {o : Oper} {st : St}
theorem quV {hp hp' : List (Nat × Blk)} {x : V} (h : ∀ j ∈ x.keys, hp'.lookup j = hp.lookup j) : x.cellsL hp' = x.cellsL hp := by
  cases x with
  | c x =>
    have : x.oneB hp' = x.oneB hp := by
      cases x <;> simp only [C.oneB]
      all_goals (rw [h _ (by simp [V.keys, C.keys])])
    simp only [V.cellsL, this]
  | agg => rfl
  | tup => rfl
theorem zpO {hp hp' : List (Nat × Blk)} {ev ev' : Operand → V} : ∀ (op : Op), (∀ x ∈ op.operands.toList, ev' x = ev x) → (∀ x ∈ op.operands.toList, ∀ j ∈ (ev x).keys, hp'.lookup j = hp.lookup j) →
    qpW P hp' ev' op = qpW P hp ev op := by
  intro op he hh
  cases op with
  | move x => simp only [qpW]; rw [he x (by simp [Op.operands])]
  | assign x => simp only [qpW]; rw [he x (by simp [Op.operands])]
  | pick c x y => simp only [qpW]; rw [he c (by simp [Op.operands]), he x (by simp [Op.operands]), he y (by simp [Op.operands])]
  | binOp op t x y t' => simp only [qpW]; rw [he x (by simp [Op.operands]), he y (by simp [Op.operands])]
  | unOp op t x => simp only [qpW]; rw [he x (by simp [Op.operands])]
  | convert s t x => simp only [qpW]; rw [he x (by simp [Op.operands])]
  | fieldAddr s x f =>
    simp only [qpW]
    have hk := hh x (by simp [Op.operands])
    rw [he x (by simp [Op.operands])]
    cases hx : ev x with
    | c c =>
      cases c with
      | ptr j k => have e := hk j (by rw [hx]; simp [V.keys, C.keys]); cases qvV P s f <;> simp only [e]
      | rptr j i k => have e := hk j (by rw [hx]; simp [V.keys, C.keys]); cases qvV P s f <;> simp only [e]
      | ep el k => cases qvV P s f <;> rfl
      | _ => rfl
    | agg => rfl
    | tup => rfl
  | indexAddr t x ix =>
    simp only [qpW]
    have hk := hh x (by simp [Op.operands])
    rw [he x (by simp [Op.operands]), he ix (by simp [Op.operands])]
    cases hx : ev x with
    | c c =>
      cases c with
      | ptr j k =>
        have e := hk j (by rw [hx]; simp [V.keys, C.keys])
        cases ev ix with
        | c d =>
          cases d with
          | t y => cases y <;> first | rfl | (cases zaS P t <;> simp only [e])
          | _ => rfl
        | _ => rfl
      | rptr j i k =>
        have e := hk j (by rw [hx]; simp [V.keys, C.keys])
        cases ev ix with
        | c d =>
          cases d with
          | t y => cases y <;> first | rfl | (cases zaS P t <;> simp only [e])
          | _ => rfl
        | _ => rfl
      | ep el k =>
        cases ev ix with
        | c d =>
          cases d with
          | t y => cases y <;> first | rfl | (cases zaS P t <;> rfl)
          | _ => rfl
        | _ => rfl
      | _ => rfl
    | agg => rfl
    | tup => rfl
  | load t x =>
    simp only [qpW]
    have hk := hh x (by simp [Op.operands])
    rw [he x (by simp [Op.operands])]
    cases hx : ev x with
    | c c =>
      cases c with
      | ptr j k =>
        have e := hk j (by rw [hx]; simp [V.keys, C.keys])
        cases qpC P t with
        | none => rfl
        | some p => obtain ⟨b, n⟩ := p; cases b <;> simp only [e]
      | ep el k =>
        cases qpC P t with
        | none => rfl
        | some p => obtain ⟨b, n⟩ := p; cases b <;> rfl
      | _ => rfl
    | agg => rfl
    | tup => rfl
  | extract x n => simp only [qpW]; rw [he x (by simp [Op.operands])]
  | build t parts =>
    simp only [qpW]
    have hm : ∀ (ps : List (Nat × Operand)), (∀ p ∈ ps, p.2 ∈ (Op.build t parts).operands.toList) →
        (ps.mapM fun p => ((ev' p.2).cellsL hp').map fun xs => (p.1, xs)) = (ps.mapM fun p => ((ev p.2).cellsL hp).map fun xs => (p.1, xs)) := by
      intro ps
      induction ps with
      | nil => intro _; rfl
      | cons p ps ih =>
        intro h
        have hp2 := h p (by simp)
        rw [List.mapM_cons, List.mapM_cons, ih fun q hq => h q (by simp [hq]), he p.2 hp2, quV (hh p.2 hp2)]
    rw [hm parts.toList fun p hp => by simp only [Op.operands, List.toList_toArray, List.mem_map]; exact ⟨p, hp, rfl⟩]
  | makeFunc fn first captured => cases fn <;> rfl
  | call c =>
    obtain ⟨callee, args, argTypes⟩ := c
    cases callee with
    | builtin b =>
      simp only [qpW]
      have ha : ∀ x ∈ args.toList, x ∈ (Op.call ⟨.builtin b, args, argTypes⟩).operands.toList := by intro x hx; simpa [Op.operands, Call.operands] using hx
      have h1 : ∀ x xs, args.toList = x :: xs → ev' x = ev x ∧ ∀ j ∈ (ev x).keys, hp'.lookup j = hp.lookup j := fun x xs e =>
        ⟨he x (ha x (by rw [e]; simp)), hh x (ha x (by rw [e]; simp))⟩
      have h2 : ∀ x y xs, args.toList = x :: y :: xs → ev' y = ev y := fun x y xs e => he y (ha y (by rw [e]; simp))
      split
      · rename_i x t hx ht
        obtain ⟨e1, k1⟩ := h1 _ _ hx
        rw [e1]
        cases hx : ev x with
        | c c =>
          cases c with
          | row j off len =>
            have e := k1 j (by rw [hx]; simp [V.keys, C.keys])
            simp only [e]
          | t y => cases y <;> rfl
          | _ => rfl
        | agg => rfl
        | tup => rfl
      · rename_i x y t t' hx ht
        rw [(h1 _ _ hx).1, h2 _ _ _ hx]
      · rename_i x y t t' hx ht
        rw [(h1 _ _ hx).1, h2 _ _ _ hx]
      · rfl
    | _ => rfl
  | _ => rfl
theorem qbD {st σ : St} : ∀ {xs : List Operand}, q72 st σ xs → ∀ x ∈ xs, σ.ev x = st.ev x
  | x :: xs, h, y, hy => by
    rcases List.mem_cons.1 hy with rfl | hy
    · exact h.1
    · exact qbD h.2 y hy
theorem qp7 {st σ : St} : ∀ {js : List Nat}, zd1 st σ js → ∀ j ∈ js, σ.hp.lookup j = st.hp.lookup j
  | j :: js, h, i, hi => by
    rcases List.mem_cons.1 hi with rfl | hi
    · exact h.1
    · exact qp7 h.2 i hi
theorem zjT (σ : St) (d : Option Nat) (v : V) : (⟨d.map fun t => (t, v), none⟩ : Upd).app σ = σ.put? d v := by cases d <;> rfl
theorem zvS {v : V} {rk : List Nat} (h : qpW P st.hp st.ev o.op = some v) (hk : q1F st o rk = true) : Eff P cx o st rk [] ⟨o.dst.map fun t => (t, v), none⟩ := by
  intro σ hev hb _
  rw [zjT]
  refine zoN (zsC ?_)
  rw [zpO o.op (qbD hev) (fun x hx j hj => qp7 hb j ?_), h]
  simp only [q1F, List.all_eq_true] at hk
  have := hk x hx j hj
  simpa using this
theorem qjF {v : V} {rk : List Nat} (h : ∀ σ, q72 st σ o.op.operands.toList → zd1 st σ rk → qe2 P cx o σ v) : Eff P cx o st rk [] ⟨o.dst.map fun t => (t, v), none⟩ := by
  intro σ hev hb _
  rw [zjT]
  exact zoN (h σ hev hb)
theorem zt1 {t : TypeId} {j : Nat} {z : Value} {zs : List C} (ho : o.op = .alloc t) (hd : o.dst = some j) (hz : (P.info? t).bind (·.zero) = some z)
    (hz1 : z.cells.all (·.oneCell') = true) (hzs : z.cells.toList.map qpG = zs) : Eff P cx o st [] [j] ⟨some (j, .c (.ptr j 0)), some (j, .var zs)⟩ := by
  intro σ _ _ hf
  exact zq0 ho hd hz hz1 hzs (hf j (by simp))
theorem zy1 {t : TypeId} {j : Nat} {x : Operand} {xs : List C} {rk : List Nat} (ho : o.op = .box t x) (hd : o.dst = some j) (hx : (st.ev x).cellsL st.hp = some xs) (hk : q1F st o rk = true) (hxf : qpF (some j) xs = true) :
    Eff P cx o st rk [j] ⟨some (j, .c (.ptr j 0)), some (j, .var xs)⟩ := by
  intro σ hev hb hf
  have hxo : x ∈ o.op.operands.toList := by rw [ho]; simp [Op.operands]
  refine zw2 ho hd ?_ (hf j (by simp)) hxf
  rw [qbD hev x hxo, quV (fun j hj => qp7 hb j ?_), hx]
  simp only [q1F, List.all_eq_true] at hk
  have := hk x hxo j hj
  simpa using this
theorem ztZ {t : TypeId} {p x : Operand} {j k n : Nat} {cs xs : List C} {rk : List Nat} (ho : o.op = .store t p x) (hd : o.dst = none) (hp : st.ev p = .c (.ptr j k)) (hj : st.hp.lookup j = some (.var cs))
    (hx : (st.ev x).cellsL st.hp = some xs) (hn : xs.length = n) (hi : (P.info? t).map (·.size) = some n) (hk : k + n ≤ cs.length) (hks : q1F st o rk = true) :
    Eff P cx o st rk [] ⟨none, some (j, .var (qdH cs k xs))⟩ := by
  intro σ hev hb _
  have hpo : p ∈ o.op.operands.toList := by rw [ho]; simp [Op.operands]
  have hxo : x ∈ o.op.operands.toList := by rw [ho]; simp [Op.operands]
  simp only [q1F, List.all_eq_true] at hks
  refine zm4 (n := n) ho hd ((qbD hev p hpo).trans hp) ?_ ?_ hn hi hk
  · rw [qp7 hb j ?_, hj]
    have := hks p hpo j (by rw [hp]; simp [V.keys, C.keys])
    simpa using this
  · rw [qbD hev x hxo, quV (fun j hj => qp7 hb j ?_), hx]
    have := hks x hxo j hj
    simpa using this
theorem zjS {σ : St} : ∀ {hss : List (List Nat)} {xs : List Operand}, (∀ x ∈ xs, σ.ev x = st.ev x) → zdE σ hss xs = zdE st hss xs
  | [], [], _ => rfl
  | hs :: hss, x :: xs, h => by
    simp only [zdE]
    rw [h x (by simp), zjS fun y hy => h y (by simp [hy])]
  | [], _ :: _, _ => rfl
  | _ :: _, [], _ => rfl
theorem zvT {x : Operand} {args : List Operand} {tys : Array TypeId} {f : FuncId} {hss : List (List Nat)} {ys : List TV} {res : TV} (ho : o.op = .call { callee := .value x, args := args.toArray, argTypes := tys })
    (hx : st.ev x = .c (.t (.fn f))) (hc : qjV P f = true) (hargs : zdE st hss args = some ys) (hh : qc7 P f ys res) : Eff P cx o st [] [] ⟨o.dst.map fun t => (t, res.toV), none⟩ := by
  intro σ hev _ _
  rw [zjT]
  have hops : ∀ y, y = x ∨ y ∈ args → y ∈ o.op.operands.toList := by intro y hy; rw [ho]; simp [Op.operands, Call.operands]; exact hy
  exact zyM ho ((qbD hev x (hops x (.inl rfl))).trans hx) hc ((zjS fun y hy => qbD hev y (hops y (.inr hy))).trans hargs) hh
theorem zr3 {t : TypeId} {p x : Operand} {j i k n e sz fz : Nat} {es : List (List T)} {el ys : List T} {xs : List C} {rk : List Nat} (hh : Nat → Nat) (ho : o.op = .store t p x) (hd : o.dst = none) (hp : st.ev p = .c (.rptr j i k))
    (hj : st.hp.lookup j = some (.row e sz es fz)) (he : es[i]? = some el) (hx : (st.ev x).cellsL st.hp = some xs) (hy : qrZ hh 0 xs = some ys) (hn : ys.length = n)
    (hi : (P.info? t).map (·.size) = some n) (hk : k + n ≤ sz) (hfz : fz ≤ i) (hks : q1F st o rk = true) :
    Eff P cx o st rk [] ⟨none, some (j, .row e sz (es.set i (qdH el k ys)) fz)⟩ := by
  intro σ hev hb _
  have hpo : p ∈ o.op.operands.toList := by rw [ho]; simp [Op.operands]
  have hxo : x ∈ o.op.operands.toList := by rw [ho]; simp [Op.operands]
  simp only [q1F, List.all_eq_true] at hks
  refine zs9 (n := n) hh ho hd ((qbD hev p hpo).trans hp) ?_ he ?_ hy hn hi hk hfz
  · rw [qp7 hb j ?_, hj]
    have := hks p hpo j (by rw [hp]; simp [V.keys, C.keys])
    simpa using this
  · rw [qbD hev x hxo, quV (fun j hj => qp7 hb j ?_), hx]
    have := hks x hxo j hj
    simpa using this
theorem zaH {σ : St} : ∀ {ps : List (Nat × Operand)}, (∀ p ∈ ps, σ.ev p.2 = st.ev p.2) → (∀ p ∈ ps, ∀ j ∈ (st.ev p.2).keys, σ.hp.lookup j = st.hp.lookup j) → qtV σ ps = qtV st ps
  | [], _, _ => rfl
  | (i, x) :: ps, h, hk => by
    simp only [qtV]
    rw [h (i, x) (by simp), quV (hk (i, x) (by simp)), zaH (fun p hp => h p (by simp [hp])) fun p hp => hk p (by simp [hp])]
theorem zt0 {t : TypeId} {len : Nat} {parts : Array (Nat × Operand)} {j e sz by' : Nat} {z : Value} {ds : List C} {es : List (List T)} {qs : List (Nat × List C)} {rk : List Nat} (hh : Nat → Nat) (ho : o.op = .buildSlice t len parts) (hd : o.dst = some j)
    (hi : qi8 P t = some (e, sz, by', z)) (hsz : 0 < sz) (hz : z.cells.all (·.oneCell') = true) (hlen : 0 < len) (h24 : len * sz ≤ 16777216)
    (hq : qtV st parts.toList = some qs) (hfl : znH (fun i => some (i * sz, sz)) (((Array.range (len * sz)).map (z.cells[· % z.cells.size]!)).toList.map qpG) qs = some ds)
    (hds : qrZ hh 0 ds = some es.flatten) (hes : ∀ x ∈ es, x.length = sz) (hle : es.length = len) (hks : q1F st o rk = true) :
    Eff P cx o st rk [j] ⟨some (j, .c (.row j 0 len)), some (j, .row e sz es 0)⟩ := by
  intro σ hev hb hf
  have hops : ∀ p ∈ parts.toList, p.2 ∈ o.op.operands.toList := by
    intro p hp; rw [ho]; simp only [Op.operands, List.toList_toArray, List.mem_map]; exact ⟨p, hp, rfl⟩
  simp only [q1F, List.all_eq_true] at hks
  refine ok_lit hh ho hd hi hsz hz hlen h24 ?_ hfl hds hes hle (hf j (by simp))
  rw [zaH (fun p hp => qbD hev _ (hops p hp)) (fun p hp j hj => qp7 hb j ?_), hq]
  have := hks p.2 (hops p hp) j hj
  simpa using this
end
open Go.RowKit (Below)
def a00 : Act := ⟨#[], []⟩
def qk6 (P : Program) (f : FuncId) (args : List V) (F F' : List (Nat × Blk)) (res : V) : Prop :=
  ∀ (w0 : World) (I0 : Nat → Nat → Prop) (xs : List Value) (ks : List (Nat × Obj)) (exs : List V) (H : List (Nat × Blk)) (L : Loc) (I : Nat → Nat → Prop) (w : World) (vs : List Value),
    SimD ⟨w0, I0, xs, 0, none, ks⟩ L I ⟨[], F ++ H, exs⟩ a00 w → VRs w L (F ++ H) I vs args →
    Calls P f vs.toArray w fun e w' => ∃ v L' I', e = .returned v ∧ SimD ⟨w0, I0, xs, 0, none, ks⟩ L' I' ⟨[], F' ++ H, exs⟩ a00 w' ∧ VR w' L' (F' ++ H) I' v res
def idxV : Nat → List V → List (Nat × V)
  | _, [] => []
  | k, x :: xs => (k, x) :: idxV (k + 1) xs
theorem q7R : ∀ (xs : List V) (k t : Nat) (v : V), (idxV k xs).lookup t = some v → k ≤ t ∧ xs[t - k]? = some v
  | [], _, _, _, h => by simp [idxV] at h
  | x :: xs, k, t, v, h => by
    simp only [idxV, qcV] at h
    split at h
    · rename_i e; subst e; cases h
      exact ⟨Nat.le_refl _, by simp⟩
    · obtain ⟨h1, h2⟩ := q7R xs (k + 1) t v h
      refine ⟨by omega, ?_⟩
      rw [show t - k = (t - (k + 1)) + 1 by omega]
      simpa using h2
def okFn (P : Program) (f : FuncId) (n : Nat) : Bool := match P.funcs[f]? with | some fn => fn.body.isSome && fn.ntmps == n | none => false
def qm5 (P : Program) (f : FuncId) : Code := match P.funcs[f]? with | some fn => fn.body.getD .skip | none => .skip
def endV (P : Program) (f : FuncId) (s : St) : Option V := match P.funcs[f]? with
  | some fn => match fn.results.toList with
    | [r] => resV P s r
    | [] => some (.tup [])
    | _ => none
  | none => none
def zlP (P : Program) (f : FuncId) (hp : List (Nat × Blk)) (exs : List V) (res : V) (e : Exit) (s : St) : Prop :=
  (e = .ret ∨ e = .normal) ∧ (∀ k, s.hp.lookup k = hp.lookup k) ∧ s.ex = exs ∧ endV P f s = some res
section
variable {P : Program} {cx : Cx} {o : Oper} {st : St} {L : Loc} {I : Nat → Nat → Prop} {a : Act} {w : World}
theorem ztP {f : FuncId} {n : Nat} {args : List V} {F F' : List (Nat × Blk)} {res : V} (hok : okFn P f n = true) (hl : args.length ≤ n)
    (h : ∀ cx : Cx, cx.n = n → cx.rd = none → ∀ H exs, AW P cx (qm5 P f) ⟨idxV 0 args, F ++ H, exs⟩ (zlP P f (F' ++ H) exs res)) : qk6 P f args F F' res := by
  unfold okFn at hok
  split at hok
  · rename_i fn hfn
    simp only [Bool.and_eq_true, beq_iff_eq] at hok
    obtain ⟨c, hc⟩ := Option.isSome_iff_exists.1 hok.1
    have hbody : qm5 P f = c := by unfold qm5; rw [hfn]; show fn.body.getD .skip = c; rw [hc]; rfl
    rw [hbody] at h
    intro w0 I0 xs ks exs H L I w vs hs hvs
    refine callsIn_wide.1 (callsIn_of_wp_marks (n := 2) hfn hc trivial ?_)
    have hlen : vs.length = args.length := VRs.length hvs
    have hn := hok.2
    have hsim : SimD ⟨w0, I0, xs, n, none, ks⟩ L I ⟨idxV 0 args, F ++ H, exs⟩ { tmps := vs.toArray ++ Array.replicate (fn.ntmps - vs.toArray.size) undef, defers := [] } w :=
      { below := hs.below
        i0 := hs.i0
        i1 := hs.i1
        ib := hs.ib
        inj := hs.inj
        hp := hs.hp
        tm := fun t v ht => by
          obtain ⟨_, h1⟩ := q7R args 0 t v ht
          simp only [Nat.sub_zero] at h1
          obtain ⟨u, g1, g2⟩ := VRs.get hvs h1
          have htl : t < vs.length := (List.getElem?_eq_some_iff.1 g1).1
          refine ⟨?_, by show t < n; omega⟩
          have : (vs.toArray ++ Array.replicate (fn.ntmps - vs.toArray.size) undef).getD t undef = u := by
            have e1 : (vs.toArray ++ Array.replicate (fn.ntmps - vs.toArray.size) undef)[t]? = some u := by
              rw [Array.getElem?_append_left (by simpa using htl)]; simpa using g1
            simp only [Array.getD_eq_getD_getElem?, e1, Option.getD_some]
          rw [this]
          exact g2
        ex := hs.ex
        defers := hs.defers
        kp := hs.kp
        mks := hs.mks
        size := by simp [hn]; show _ = n; omega }
    refine wpIn_mono (h ⟨w0, I0, xs, n, none, ks⟩ rfl rfl H exs _ w ⟨L, I, hsim⟩) ?_
    intro e a' w' ⟨s, hq, L', I', hs'⟩
    obtain ⟨he, hhp, hex, hend⟩ := hq
    unfold endV at hend
    rw [hfn] at hend
    simp only at hend
    have fin : LeavesInM Fence.wide 2 P fn a'.tmps (fun e w' => ∃ v' L' I', e = .returned v' ∧ SimD ⟨w0, I0, xs, 0, none, ks⟩ L' I' ⟨[], F' ++ H, exs⟩ a00 w' ∧ VR w' L' (F' ++ H) I' v' res) a'.defers .returning w' := by
      refine qzC L'.ds L' a' w' hs' rfl fun L' w' hs' hds _ _ => ?_
      split at hend
      · rename_i r hr
        have h2 : SimD ⟨w0, I0, xs, n, none, ks⟩ L' I' ⟨s.tm, F' ++ H, exs⟩ { a' with defers := [] } w' := hs'.same (fun _ => rfl) (fun k => (hhp k).symm) hex.symm
        have hres2 : resV P ⟨s.tm, F' ++ H, exs⟩ r = some res := by
          rw [← hend]
          cases r with
          | tmp t => rfl
          | cell p ty => simp only [resV, ← hhp]
        obtain ⟨v, g1, g2⟩ := zqY (P := P) h2 hres2
        refine ⟨v, ?_, v, L', I', rfl, ?_, g2⟩
        · have hm : (fn.results.mapM (q0O { a' with defers := [] })).run P w' = .ok #[v] w' := by
            rw [Array.mapM_eq_mapM_toList, hr]
            simp only [List.mapM_cons, List.mapM_nil, Sem.run_map, Sem.run_bind, g1, Result.andThen_ok]
            rfl
          have he : results fn a'.tmps = (fn.results.mapM (q0O { a' with defers := [] })) >>= fun vs => pure (if h : vs.size = 1 then vs[0] else .tuple vs) := by
            unfold results
            congr 1
          rw [he, Sem.run_bind, hm]
          rfl
        · exact {
            below := h2.below
            i0 := h2.i0
            i1 := h2.i1
            ib := h2.ib
            inj := h2.inj
            hp := h2.hp
            tm := fun t v ht => by simp at ht
            ex := h2.ex
            defers := by rw [hds]; rfl
            kp := h2.kp
            mks := h2.mks
            size := rfl }
      · rename_i hr
        cases hend
        have hre : fn.results = #[] := by rw [← Array.toArray_toList (xs := fn.results), hr]
        have h2 : SimD ⟨w0, I0, xs, n, none, ks⟩ L' I' ⟨s.tm, F' ++ H, exs⟩ { a' with defers := [] } w' := hs'.same (fun _ => rfl) (fun k => (hhp k).symm) hex.symm
        refine ⟨.tuple #[], results_none hre _ _ _, .tuple #[], L', I', rfl, ?_, #[], rfl, trivial⟩
        exact {
            below := h2.below
            i0 := h2.i0
            i1 := h2.i1
            ib := h2.ib
            inj := h2.inj
            hp := h2.hp
            tm := fun t v ht => by simp at ht
            ex := h2.ex
            defers := by rw [hds]; rfl
            kp := h2.kp
            mks := h2.mks
            size := rfl }
      · cases hend
    rcases he with rfl | rfl
    · exact fin
    · exact fin
  · cases hok
theorem VRs.append {H : List (Nat × Blk)} : ∀ {vs us : List Value} {xs ys : List V}, VRs w L H I vs xs → VRs w L H I us ys → VRs w L H I (vs ++ us) (xs ++ ys)
  | [], _, [], _, _, h2 => h2
  | _ :: _, _, _ :: _, _, h1, h2 => ⟨h1.1, VRs.append h1.2 h2⟩
  | [], _, _ :: _, _, h1, _ => h1.elim
  | _ :: _, _, [], _, h1, _ => h1.elim
theorem VRs.left {H : List (Nat × Blk)} : ∀ {vs us : List Value} {xs ys : List V}, vs.length = xs.length → VRs w L H I (vs ++ us) (xs ++ ys) → VRs w L H I vs xs
  | [], _, [], _, _, _ => trivial
  | _ :: _, _, _ :: _, _, hl, h => ⟨h.1, VRs.left (by simpa using hl) h.2⟩
  | [], _, _ :: _, _, hl, _ => by simp at hl
  | _ :: _, _, [], _, hl, _ => by simp at hl
theorem VRs.of_get {H : List (Nat × Blk)} : ∀ (vs : List Value) (xs : List V), vs.length = xs.length → (∀ (k : Nat) v x, vs[k]? = some v → xs[k]? = some x → VR w L H I v x) → VRs w L H I vs xs
  | [], [], _, _ => trivial
  | v :: vs, x :: xs, hl, h => ⟨h 0 v x rfl rfl, VRs.of_get vs xs (by simpa using hl) fun k v x h1 h2 => h (k + 1) v x (by simpa using h1) (by simpa using h2)⟩
  | [], _ :: _, hl, _ => by simp at hl
  | _ :: _, [], hl, _ => by simp at hl
def capV : Cap → V
  | .ptr j k => .c (.ptr j k)
  | .t x => .c (.t x)
theorem zt7 {H : List (Nat × Blk)} : ∀ {vs : List Value} {xs : List Cap}, zr7 w L H I vs xs → VRs w L H I vs (xs.map capV)
  | [], [], _ => trivial
  | _ :: _, x :: _, h => ⟨by cases x <;> exact h.1, zt7 h.2⟩
  | [], _ :: _, h => h.elim
  | _ :: _, [], h => h.elim
def fnOf : V → Option (FuncId × List Cap)
  | .c (.t (.fn f)) => some (f, [])
  | .c (.fn f caps) => some (f, caps)
  | _ => none
theorem zxC {H : List (Nat × Blk)} {v : Value} {x : V} {f : FuncId} {caps : List Cap} (h : VR w L H I v x) (hx : fnOf x = some (f, caps)) : ∃ cs : Array Value, v = .func (.func f) #[] cs ∧ VRs w L H I cs.toList (caps.map capV) := by
  unfold fnOf at hx
  split at hx
  · cases hx; exact ⟨#[], Rep.fn_inv h, trivial⟩
  · cases hx; obtain ⟨cs, h1, h2⟩ := h; exact ⟨cs, h1, zt7 h2⟩
  · cases hx
theorem zpM {x : Operand} {args : List Operand} {tys : Array TypeId} {f : FuncId} {cs : Array Value} (ho : o.op = .call { callee := .value x, args := args.toArray, argTypes := tys }) (hx : a.eval x = .func (.func f) #[] cs)
    (hc : qjV P f = true) : (execOp a.eval o).run P w = .ok (.enter f (args.map a.eval ++ cs.toList).toArray) w := by
  unfold qjV at hc
  split at hc
  · rename_i fn hfn
    simp only [Bool.and_eq_true, Bool.not_eq_true', Option.isSome_iff_ne_none] at hc
    have hb : fn.body.isNone = false := by cases hbb : fn.body <;> simp_all
    simp only [execOp, ho, resolve, hx, Deferred.ofValue, Sem.run_bind, Sem.run_pure, Result.andThen_ok, invoke, callFunc, run_program, hfn, hc.1, hb]
    simp
  · cases hc
def zdQ (ds : List Nat) : List (Nat × Obj) := ds.map fun D => (D, .deferred (some []))
theorem zcM (h : SimD cx L I st a w) : zoU (cx.ks ++ zdQ L.ds) w := by
  refine ⟨?_, fun p hp => ?_⟩
  · rw [List.map_append, List.nodup_append]
    refine ⟨h.kp.1, ?_, ?_⟩
    · have : (zdQ L.ds).map (·.1) = L.ds := by simp only [zdQ, List.map_map]; exact List.map_id'' (fun _ => rfl) _
      rw [this]; exact h.mks.1
    · intro x hx y hy e
      obtain ⟨p, hp, rfl⟩ := List.mem_map.1 hx
      obtain ⟨q, hq, rfl⟩ := List.mem_map.1 hy
      obtain ⟨D, hD, rfl⟩ := List.mem_map.1 hq
      exact (h.mks.2 D hD).2.2 p hp e
  · rcases List.mem_append.1 hp with hp | hp
    · exact h.kp.2 p hp
    · obtain ⟨D, hD, rfl⟩ := List.mem_map.1 hp
      exact ⟨(h.mks.2 D hD).1, fun _ _ _ e => by cases e⟩
def ztV (hp F : List (Nat × Blk)) : Prop := ∀ k, (F ++ hp).lookup k = hp.lookup k
theorem zvO (h : SimD cx L I st a w) : ∀ xs : List Operand, VRs w L st.hp I (xs.map a.eval) (xs.map st.ev)
  | [] => trivial
  | x :: xs => ⟨h.ev x, zvO h xs⟩
theorem zvA {x : Operand} {args : List Operand} {tys : Array TypeId} {f : FuncId} {caps : List Cap} {F F' : List (Nat × Blk)} {res : V} (ho : o.op = .call { callee := .value x, args := args.toArray, argTypes := tys })
    (hx : fnOf (st.ev x) = some (f, caps)) (hc : qjV P f = true) (hF : ztV st.hp F) (hh : qk6 P f (args.map st.ev ++ caps.map capV) F F' res) :
    OpOK P cx o st (({ st with hp := F' ++ st.hp } : St).put? o.dst res) := by
  intro hd a w hsim K Q hK
  obtain ⟨L, I, h⟩ := hsim
  obtain ⟨cs, hf, hcs⟩ := zxC (h.ev x) hx
  have hrun := zpM (P := P) (w := w) ho hf hc
  have hv : VRs w L st.hp I (args.map a.eval ++ cs.toList) (args.map st.ev ++ caps.map capV) := VRs.append (zvO h args) hcs
  let tmv : List V := (List.range cx.n).map fun t => (st.tm.lookup t).getD (.c .any)
  have hts : VRs w L st.hp I a.tmps.toList tmv := VRs.of_get _ _ (by simp [tmv, h.size]) fun k v x h1 h2 => by
    have hk : k < cx.n := by
      have := (List.getElem?_eq_some_iff.1 h2).1
      simpa [tmv] using this
    simp only [tmv, List.getElem?_map, List.getElem?_range hk, Option.map_some, Option.some.injEq] at h2
    subst h2
    cases hl : st.tm.lookup k with
    | none => trivial
    | some y =>
      have := (h.tm k y hl).1
      have e : a.tmps.getD k undef = v := by
        rw [Array.getD_eq_getD_getElem?]
        rw [Array.getElem?_toList] at h1
        rw [h1]; rfl
      rw [e] at this
      exact this
  let L0 : Loc := { L with ds := [] }
  have kd : ∀ (w : World) (L : Loc) (ds : List Nat) (H : List (Nat × Blk)) (I : Nat → Nat → Prop), Keep none w w L { L with ds := ds } H H I I := fun _ _ _ _ _ =>
    ⟨fun _ _ h => h, fun _ _ _ => rfl, fun j _ hs => ⟨hs, rfl⟩, fun j e sz es fz _ hl => ⟨es, fz, hl, Nat.le_refl _, rfl⟩⟩
  let ks : List (Nat × Obj) := cx.ks ++ zdQ L.ds
  have h0 : SimD ⟨cx.w0, cx.I0, cx.xs ++ a.tmps.toList, 0, none, ks⟩ L0 I ⟨[], st.hp, st.ex ++ tmv⟩ a00 w :=
    { below := h.below
      i0 := h.i0
      i1 := h.i1
      ib := h.ib
      inj := h.inj
      hp := fun j b hl => BR.keep (kd w L [] st.hp I) (h.hp j b hl) (Blk.free_none _) rfl rfl rfl (fun o ho => ho)
      tm := fun t v ht => by simp at ht
      ex := (kd w L [] st.hp I).vs (qgB _) (VRs.append h.ex hts)
      defers := rfl
      kp := zcM h
      mks := ⟨List.nodup_nil, fun _ h => by cases h⟩
      size := rfl }
  have h1 : SimD ⟨cx.w0, cx.I0, cx.xs ++ a.tmps.toList, 0, none, ks⟩ L0 I ⟨[], F ++ st.hp, st.ex ++ tmv⟩ a00 w := h0.same (fun _ => rfl) (fun k => hF k) rfl
  have k1 : Keep none w w L L0 st.hp (F ++ st.hp) I I :=
    ⟨fun _ _ h => h, fun _ _ _ => rfl, fun j _ hs => ⟨by rw [hF] at hs; exact hs, rfl⟩, fun j e sz es fz _ hl => ⟨es, fz, by rw [hF] at hl; exact hl, Nat.le_refl _, rfl⟩⟩
  have hcalls := hh cx.w0 cx.I0 (cx.xs ++ a.tmps.toList) ks (st.ex ++ tmv) st.hp L0 I w _ h1 (k1.vs (qgB _) hv)
  unfold Oper.wp
  rw [hrun, Oper.upon_enter]
  refine Calls.mono hcalls fun e w' he => ?_
  obtain ⟨v, L', I', rfl, h2, hvr⟩ := he
  have hxl : cx.xs.length = st.ex.length := VRs.length h.ex
  have h3 : SimD cx { L' with ds := L.ds } I' { st with hp := F' ++ st.hp } a w' :=
    { below := h2.below
      i0 := h2.i0
      i1 := h2.i1
      ib := h2.ib
      inj := h2.inj
      hp := fun j b hl => BR.keep (kd w' L' L.ds (F' ++ st.hp) I') (h2.hp j b hl) (Blk.free_none _) rfl rfl rfl (fun o ho => ho)
      tm := fun t v ht => by
        have htn := (h.tm t v ht).2
        refine ⟨?_, htn⟩
        have hg : (st.ex ++ tmv)[st.ex.length + t]? = some v := by
          rw [List.getElem?_append_right (by omega), Nat.add_sub_cancel_left]
          simp only [tmv, List.getElem?_map, List.getElem?_range htn, Option.map_some]
          rw [show st.tm.lookup t = some v from ht]; rfl
        obtain ⟨u, g1, g2⟩ := VRs.get h2.ex hg
        have g1' : (cx.xs ++ a.tmps.toList)[st.ex.length + t]? = some u := g1
        rw [List.getElem?_append_right (by omega), ← hxl, Nat.add_sub_cancel_left, Array.getElem?_toList] at g1'
        have e : a.tmps.getD t undef = u := by rw [Array.getD_eq_getD_getElem?, g1']; rfl
        rw [e]; exact (kd w' L' L.ds (F' ++ st.hp) I').v (V.free_none v) g2
      ex := (kd w' L' L.ds (F' ++ st.hp) I').vs (qgB _) (VRs.left hxl h2.ex)
      defers := h.defers
      kp := h.kp.1 |> fun nd => ⟨nd, fun p hp => h2.kp.2 p (List.mem_append_left _ hp)⟩
      mks := ⟨h.mks.1, fun D hD => ⟨(h2.kp.2 (D, .deferred (some [])) (List.mem_append_right _ (List.mem_map.2 ⟨D, hD, rfl⟩))).1, (h.mks.2 D hD).2⟩⟩
      size := h.size }
  exact hK _ _ (ql9 h3 ((kd w' L' L.ds (F' ++ st.hp) I').v (V.free_none res) hvr) hd)
theorem zsE {f : FuncId} {captured : Array Operand} {caps : List Cap} (ho : o.op = .makeFunc (.func f) #[] captured) (hc : captured.toList.map st.ev = caps.map capV) : qe2 P cx o st (.c (.fn f caps)) := by
  intro L I a w h
  refine ⟨.func (.func f) #[] (captured.map a.eval), by simp [execOp, ho, Instr.makeFunc], captured.map a.eval, rfl, ?_⟩
  have hv := zvO h captured.toList
  rw [hc] at hv
  have : ∀ {vs : List Value} {xs : List Cap}, VRs w L st.hp I vs (xs.map capV) → zr7 w L st.hp I vs xs := by
    intro vs
    induction vs with
    | nil => intro xs hx; cases xs with
      | nil => trivial
      | cons => exact hx.elim
    | cons v vs ih => intro xs hx; cases xs with
      | nil => exact hx.elim
      | cons x xs => exact ⟨by cases x <;> exact hx.1, ih hx.2⟩
  have e : (captured.map a.eval).toList = captured.toList.map a.eval := by simp
  rw [e]
  exact this hv
end
end Go.Am
