/- Part 2 of the proof: Am16 .. Fn_integer_Add. -/
import Derived.Test.YteciehfkhmbfeaaGreatSa
import Derived.Scope
import Derived.Test.YteciehfkhmbfeaaGreatProg
namespace Go.Am
open Go.RowKit (Below)
def AllP : List Prop → Prop
  | [] => True
  | p :: ps => p ∧ AllP ps
theorem AllP.append : ∀ {xs ys : List Prop}, AllP (xs ++ ys) → AllP xs ∧ AllP ys
  | [], _, h => ⟨trivial, h⟩
  | _ :: _, _, h => ⟨⟨h.1, (AllP.append h.2).1⟩, (AllP.append h.2).2⟩
inductive H where
  | p
  | ix (el : List T)
  | ir
  | ld (el : List T)
  | st (el : List T) (es : List (List T))
  | mk (zt : List T) (es : List (List T))
  | lit (es : List (List T))
  | appN (es : List (List T))
  | appR (es es2 : List (List T))
  | appT (es : List (List T))
  | call (hss : List (List Nat)) (ys : List TV) (res : TV)
  | slT (l h : Nat) (es : List (List T))
  | slR (l h off len : Nat)
  | clip (l h m off len : Nat)
  | sl0
  | ln (n : Int)
  | dv
  | sx (r : Int)
  | cp (es2 es : List (List T)) (n : Int)
  | slM (l h m : Nat) (es : List (List T))
  | litT (es : List (List T))
  | clo
  | app0
  | pk (b : Bool)
  | ia (n : Nat)
  | iv (n : Nat)
  | eq4
  | mv
  | lit0
  | ga (b : Bool) (h : H)
def szAt (ts : List T) (k : Nat) : Nat := match ts[k]? with | some (.sl n _) => n | _ => 0
def bndP (st : St) (o : Option Operand) (d r : Nat) : Option Prop :=
  match o with
  | none => some (r = d)
  | some x => match st.ev x with
    | .c (.t (.int _ n)) => some (0 ≤ n ∧ r = n.toNat)
    | _ => none
theorem qn1 {st σ : St} {o : Option Operand} {d r : Nat} {p : Prop} (h : bndP st o d r = some p) (hp : p) (hs : ∀ x, o = some x → σ.ev x = st.ev x) : evB σ o d r := by
  cases o with
  | none => simp only [bndP] at h; cases h; exact hp
  | some x =>
    simp only [bndP] at h
    split at h
    · rename_i k n hx
      cases h
      exact ⟨k, n, (hs x rfl).trans hx, hp.1, hp.2⟩
    · cases h
def rkOf (st : St) (o : Oper) : List Nat := o.op.operands.toList.flatMap fun x => (st.ev x).keys
theorem za8 (st : St) (o : Oper) : q1F st o (rkOf st o) = true := by
  simp only [q1F, List.all_eq_true]
  intro x hx j hj
  simp only [List.contains_iff_mem, rkOf, List.mem_flatMap]
  exact ⟨x, hx, hj⟩
def q3E (hp : List (Nat × Blk)) (sz : Nat) : V → Option (List (List T))
  | .c (.t (.sl sz' es)) => if sz' = sz then some es else none
  | .c .nil => some []
  | .c (.row j off len) => match hp.lookup j with | some (.row _ sz' es _) => if sz' = sz then some ((es.drop off).take len) else none | _ => none
  | .c (.clip j off len) => match hp.lookup j with | some (.row _ sz' es _) => if sz' = sz then some ((es.drop off).take len) else none | _ => none
  | _ => none
theorem qwB {hp : List (Nat × Blk)} {sz : Nat} {v : V} {es : List (List T)} (h : q3E hp sz v = some es) : zdF hp sz v es := by
  unfold q3E at h
  split at h
  · split at h
    · rename_i e; subst e; cases h; exact .t _
    · cases h
  · cases h; exact .nil
  · split at h
    · rename_i hl
      split at h
      · rename_i e; subst e; cases h; exact .row _ _ _ _ _ _ hl
      · cases h
    · cases h
  · split at h
    · rename_i hl
      split at h
      · rename_i e; subst e; cases h; exact .clip _ _ _ _ _ _ hl
      · cases h
    · cases h
  · cases h
def zuD (P : Program) (t : TypeId) : Option (Nat × TypeId) := match P.underlying t with | some (.array n e) => some (n, e) | _ => none
theorem zmF {P : Program} {t n e : Nat} (h : zuD P t = some (n, e)) : P.underlying t = some (.array n e) := by
  unfold zuD at h
  split at h
  · rename_i hu; cases h; exact hu
  · cases h
section
variable {P : Program} {cx : Cx} {o : Oper} {st : St}
def intK (P : Program) (t : TypeId) : Bool := match P.underlying t with | some (.int _) => true | _ => false
theorem zrV {t e : TypeId} {k : IntKind} {w : World} {a0 a1 a2 a3 b0 b1 b2 b3 : Int} {inf : TypeInfo} {m : Nat} (hu : P.underlying t = some (.array 4 e)) (he : intK P e = true) (hl : qpC P e = some (false, m)) (hi : P.info? e = some inf) (hs : inf.size = 1) :
    (Op.equal t (.agg #[.int k a0, .int k a1, .int k a2, .int k a3]) (.agg #[.int k b0, .int k b1, .int k b2, .int k b3])).run P w = .ok (decide (a0 = b0) && (decide (a1 = b1) && (decide (a2 = b2) && decide (a3 = b3)))) w := by
  unfold intK at he
  split at he
  · rename_i k' hk
    have one : ∀ d (a b : Int) (w : World), (Op.equalIn (d + 1) e (.int k a) (.int k b)).run P w = .ok (a == b) w := fun d a b w => by simp [Op.equalIn, run_underlying hk]
    have pt : ∀ (cs : Array Value) (o : Nat) (v : Value) (w : World), cs[o]? = some v → (part e cs o).run P w = .ok v w := fun cs o v w h => by simp [part, q2O hl, h]
    show (Op.equalIn 10000 t _ _).run P w = _
    rw [show (10000 : Nat) = 9998 + 1 + 1 from rfl]
    rw [Op.equalIn]
    simp only [Sem.run_bind, run_underlying hu, Result.andThen_ok, qlG hi, hs, Std.Legacy.Range.forIn_eq_forIn_range', Std.Legacy.Range.size]
    simp only [List.range', Nat.sub_zero, Nat.div_one, List.forIn_cons, List.forIn_nil, Sem.run_bind, Nat.mul_one, Nat.zero_add, Nat.reduceAdd]
    have p0 : ∀ (x0 x1 x2 x3 : Value) (w : World), (part e #[x0, x1, x2, x3] 0).run P w = .ok x0 w := fun _ _ _ _ w => pt _ _ _ w rfl
    have p1 : ∀ (x0 x1 x2 x3 : Value) (w : World), (part e #[x0, x1, x2, x3] 1).run P w = .ok x1 w := fun _ _ _ _ w => pt _ _ _ w rfl
    have p2 : ∀ (x0 x1 x2 x3 : Value) (w : World), (part e #[x0, x1, x2, x3] 2).run P w = .ok x2 w := fun _ _ _ _ w => pt _ _ _ w rfl
    have p3 : ∀ (x0 x1 x2 x3 : Value) (w : World), (part e #[x0, x1, x2, x3] 3).run P w = .ok x3 w := fun _ _ _ _ w => pt _ _ _ w rfl
    have o9 : ∀ (a b : Int) (w : World), (Op.equalIn 9999 e (.int k a) (.int k b)).run P w = .ok (a == b) w := one 9998
    by_cases h0 : a0 = b0
    · by_cases h1 : a1 = b1
      · by_cases h2 : a2 = b2
        · by_cases h3 : a3 = b3
          · simp [h0, h1, h2, h3, p0, p1, p2, p3, o9]
          · simp [h0, h1, h2, h3, p0, p1, p2, p3, o9]
        · simp [h0, h1, h2, p0, p1, p2, o9]
      · simp [h0, h1, p0, p1, o9]
    · simp [h0, p0, o9]
  · cases he
def zrX : V → Option (IntKind × Int × Int × Int × Int)
  | .agg [.t (.int k a), .t (.int k1 b), .t (.int k2 c), .t (.int k3 d)] => if k1 = k ∧ k2 = k ∧ k3 = k then some (k, a, b, c, d) else none
  | _ => none
def zyZ (P : Program) (t : TypeId) : Bool := match zuD P t with
  | some (4, e) => intK P e && (match qpC P e with | some (false, _) => true | _ => false) && decide ((P.info? e).map (·.size) = some 1) && !P.eqGuardType P.depth t
  | _ => false
theorem ztM {w : World} {L : Loc} {H : List (Nat × Blk)} {I : Nat → Nat → Prop} {v : Value} {x : V} {k : IntKind} {a b c d : Int} (h : VR w L H I v x) (hx : zrX x = some (k, a, b, c, d)) : v = .agg #[.int k a, .int k b, .int k c, .int k d] := by
  unfold zrX at hx
  split at hx
  · split at hx
    · rename_i e
      obtain ⟨rfl, rfl, rfl⟩ := e
      cases hx
      obtain ⟨cs, rfl, hc⟩ := h
      have key : ∀ {l : List Value}, CRs w L H I l [.t (.int k a), .t (.int k b), .t (.int k c), .t (.int k d)] → l = [.int k a, .int k b, .int k c, .int k d]
        | [p, q, r, s], h => by
          have h1 := Rep.int_inv h.1.2
          have h2 := Rep.int_inv h.2.1.2
          have h3 := Rep.int_inv h.2.2.1.2
          have h4 := Rep.int_inv h.2.2.2.1.2
          rw [h1, h2, h3, h4]
        | [], h => h.elim
        | [_], h => h.2.elim
        | [_, _], h => h.2.2.elim
        | [_, _, _], h => h.2.2.2.elim
        | _ :: _ :: _ :: _ :: _ :: _, h => h.2.2.2.2.elim
      rw [← Array.toArray_toList (xs := cs), key hc]
    · cases hx
  · cases hx
theorem y_eq4 {t T' : TypeId} {x y : Operand} {k : IntKind} {a b c d a' b' c' d' : Int} (ho : o.op = .binOp .eql t x y T') (ht : zyZ P t = true) (hx : zrX (st.ev x) = some (k, a, b, c, d)) (hy : zrX (st.ev y) = some (k, a', b', c', d')) :
    qe2 P cx o st (.c (.t (.bool (decide (a = a') && (decide (b = b') && (decide (c = c') && decide (d = d'))))))) := by
  intro L I ac w h
  have h1 := ztM (h.ev x) hx
  have h2 := ztM (h.ev y) hy
  unfold zyZ at ht
  split at ht
  · rename_i e he
    simp only [Bool.and_eq_true, Bool.not_eq_true', decide_eq_true_eq] at ht
    obtain ⟨⟨⟨q1, q2⟩, q3⟩, q4⟩ := ht
    split at q2
    · rename_i m hl
      cases hi : P.info? e with
      | none => simp [hi] at q3
      | some inf =>
        simp [hi] at q3
        have hr := zrV (P := P) (w := w) (a0 := a) (a1 := b) (a2 := c) (a3 := d) (b0 := a') (b1 := b') (b2 := c') (b3 := d') (k := k) (zmF he) q1 hl hi q3
        exact ⟨_, by simp [execOp, ho, h1, h2, eqGuard, run_program, q4, binOp, hr], .bool _⟩
    · cases q2
  · cases ht
theorem zrO {t e N n sz : Nat} {x ix : Operand} {k : IntKind} {i : Int} {cs : List C} {v : V} (ho : o.op = .index t x ix) (ht : zuD P t = some (N, e)) (hx : st.ev x = .agg cs) (hi : st.ev ix = .c (.t (.int k i))) (hin : i = (n : Int)) (hn : n < N)
    (hv : (match qpC P e with
      | some (false, _) => if (P.info? e).map (·.size) = some sz then (cs[n * sz]?).map .c else none
      | some (true, m) => if m = sz ∧ ((cs.drop (n * sz)).take sz).length = sz then some (.agg ((cs.drop (n * sz)).take sz)) else none
      | none => none) = some v) : qe2 P cx o st v := by
  intro L I a w h
  have hu := zmF ht
  have hxv := h.ev x
  rw [hx] at hxv
  obtain ⟨vs, hvs, hcs⟩ := hxv
  have hiv := qjE h hi
  split at hv
  · rename_i m hl
    split at hv
    · rename_i hsz
      obtain ⟨c, hc, rfl⟩ := Option.map_eq_some_iff.1 hv
      obtain ⟨u, h1, _, h3⟩ := hcs.get hc
      cases hinf : P.info? e with
      | none => simp [hinf] at hsz
      | some inf =>
        simp [hinf] at hsz
        refine ⟨u, ?_, h3⟩
        have h1' : vs[n * sz]? = some u := by simpa using h1
        simp [execOp, ho, hvs, hiv, Instr.index, asIntOf, run_underlying hu, part, q2O hl, qlG hinf, hsz, hin, hn, h1']
    · cases hv
  · rename_i m hl
    split at hv
    · rename_i hc
      obtain ⟨rfl, hlen⟩ := hc
      cases hv
      obtain ⟨inf, hinf, hsz⟩ := ziI hl
      refine ⟨.agg (vs.extract (n * m) (n * m + m)), ?_, vs.extract (n * m) (n * m + m), rfl, ?_⟩
      · simp [execOp, ho, hvs, hiv, Instr.index, asIntOf, run_underlying hu, part, q2O hl, qlG hinf, hsz, hin, hn]
      · have := (hcs.drop (n * m)).take m
        rw [Array.toList_extract, List.extract_eq_take_drop, Nat.add_sub_cancel_left]
        exact this
    · cases hv
  · cases hv
theorem q8E {d x : Operand} {t t2 : TypeId} {v u : Value} (ho : o.op = .call { callee := .builtin .copy, args := #[d, x], argTypes := #[t, t2] })
    {a : Act} {w : World} (h1 : a.eval d = v) (h2 : a.eval x = u) {r : Value} {w' : World} (hr : (Builtin.copy_ #[t, t2] o.type #[v, u]).run P w = .ok r w') : (execOp a.eval o).run P w = .ok (.value r) w' := by
  simp only [execOp, ho, resolve, Sem.run_bind, Sem.run_pure, Result.andThen_ok, invoke, builtin, List.map_toArray, List.map_cons, List.map_nil, h1, h2, hr]
theorem zmM (w : World) (dT sT ty elem : TypeId) (a : Addr) (ad : Option Addr) (dLen dCap sCap : Nat) (hu : P.underlying dT = some (.slice elem)) (hs : ((P.info? elem).map (·.size)).isSome = true) :
    (Builtin.copy_ #[dT, sT] ty #[.slice (some a) dLen dCap, .slice ad 0 sCap]).run P w = .ok (goInt 0) w := by
  cases hq : P.info? elem with
  | none => simp [hq] at hs
  | some i => cases ad <;> simp [Builtin.copy_, run_underlying hu, Builtin.lenOf, Builtin.firstCells, sizeOf, typeInfo, hq, storeCells, loadCells, loadCellsFrom]
theorem zyL {t t2 : TypeId} {d x : Operand} {j off len e by' : Nat} {z : Value} {es es2 : List (List T)} (ho : o.op = .call { callee := .builtin .copy, args := #[d, x], argTypes := #[t, t2] })
    (hi : qi8 P t = some (e, 1, by', z)) (hs : st.ev d = .c (.row j off len)) (hj : st.hp.lookup j = some (.row e 1 es 0)) (hn : zdF st.hp 1 (st.ev x) es2) :
    OpOK P cx o st ((st.addB j (.row e 1 (qdH es off (es2.take (min es2.length len))) 0)).put? o.dst (.c (.t (.int .i64 ((min es2.length len : Nat) : Int))))) := by
  intro hd' a w hsim K Q hK
  obtain ⟨L, I, h⟩ := hsim
  obtain ⟨ad, cap, hx, hes2, hc⟩ := (hn.R h (h.ev x)).cells
  have hv := h.ev d
  rw [hs] at hv
  obtain ⟨g1, g2⟩ := hv e 1 es 0 hj
  obtain ⟨ii, hu, hie, hsize, _, _, _⟩ := qj8 hi
  have hsz1 : (P.info? e).map (·.size) = some 1 := by rw [hie]; simp [hsize]
  obtain ⟨hB, hsz0, hcap, hmx, hes, hIf, arr, hg, hsz, hcs⟩ := h.hp j _ hj
  rw [Nat.mul_one] at g2
  have fin : ∀ (cs : List Value), cs.length = min es2.length len → (∀ (q : Nat) (y : List T) (t' : T), (es2.take (min es2.length len))[q]? = some y → y[0]? = some t' → ∃ u, cs[q]? = some u ∧ Rep w I u t') →
      SimD cx L I (st.addB j (.row e 1 (qdH es off (es2.take (min es2.length len))) 0)) a (w.setRow (L.m j) (qdH arr.toList off cs).toArray) := by
    intro cs hcl hcr
    have hn' : (es2.take (min es2.length len)).length = min es2.length len := by rw [List.length_take]; omega
    have hfit : off + cs.length ≤ arr.size := by rw [hsz]; omega
    have hget : ∀ q, (qdH arr.toList off cs).toArray[q]? = if off ≤ q ∧ q < off + cs.length then cs[q - off]? else arr[q]? := by
      intro q
      rw [List.getElem?_toArray, qyD _ _ _ (by simpa using hfit)]
      simp
    refine h.write hj hg (fun e' sz' es' fz' he => by cases he; exact ⟨es, 0, rfl, by simp only [qdH, List.length_append, List.length_take, List.length_drop]; omega⟩) (fun q hq => ?_) fun kk => ?_
    · have := hIf q hq
      omega
    · refine ⟨hB, hsz0, ?_, hmx, ?_, hIf, _, setRow_heap w _ arr _ e _ hg, ?_, ?_⟩
      · simp only [qdH, List.length_append, List.length_take, List.length_drop]; omega
      · intro y hy
        simp only [qdH, List.mem_append] at hy
        rcases hy with (hy | hy) | hy
        · exact hes y (List.mem_of_mem_take hy)
        · exact hes2 y (List.mem_of_mem_take hy)
        · exact hes y (List.mem_of_mem_drop hy)
      · simp only [List.size_toArray, qdH, List.length_append, List.length_take, List.length_drop, Array.length_toList]; omega
      · intro i' k' y t' hy' ht'
        rw [qyD _ _ _ (by rw [hn']; omega)] at hy'
        have hk' : k' = 0 := by
          have h1 := (List.getElem?_eq_some_iff.1 ht').1
          have h2 : y.length = 1 := by
            split at hy'
            · exact hes2 y (List.mem_of_mem_take (List.mem_of_getElem? hy'))
            · exact hes y (List.mem_of_getElem? hy')
          omega
        subst hk'
        rw [hget, Nat.mul_one, Nat.add_zero]
        by_cases hin : off ≤ i' ∧ i' < off + min es2.length len
        · rw [if_pos (by rw [hn']; exact hin)] at hy'
          rw [if_pos (by rw [hcl]; exact hin)]
          obtain ⟨u, q1, q2⟩ := hcr _ y t' hy' ht'
          exact ⟨u, q1, kk.rep q2⟩
        · rw [if_neg (by rw [hn']; exact hin)] at hy'
          rw [if_neg (by rw [hcl]; exact hin)]
          obtain ⟨v, q1, q2⟩ := hcs i' 0 y t' hy' ht'
          rw [Nat.mul_one, Nat.add_zero] at q1
          exact ⟨v, q1, kk.rep q2⟩
  have goI : ∀ n : Nat, goInt n = .int .i64 (n : Int) := fun n => rfl
  unfold Oper.wp
  rcases hc with rfl | ⟨b, so, rfl, news, hl, hcell, h1, hrep⟩
  · have hrun := q8E (P := P) (w := w) ho g2 hx (zmM (P := P) w t t2 o.type e ⟨L.m j, off, none⟩ ad len (L.cp j - off) cap hu (by rw [hsz1]; rfl))
    rw [hrun]
    refine hK _ _ (ql9 (v := .c (.t (.int .i64 _))) (L := L) (I := I) ?_ (.int _ _) hd')
    have := fin [] (by simp) (by simp)
    have hself : (qdH arr.toList off ([] : List Value)).toArray = arr := by simp [qdH]
    rw [hself, setRow_self w _ arr e (0, 0) hg] at this
    exact this
  · have hl1 : news.length = es2.length := by rw [hl, Nat.mul_one]
    have hrun := q8E (P := P) (w := w) ho g2 hx (run_copy_row (P := P) w t t2 o.type e (L.m j) off len (L.cp j - off) ⟨b, so, none⟩ es2.length cap arr e (news.take (min es2.length len)) hu hsz1 hg
      (by rw [List.length_take, hl1]; simp only [Nat.min_def]; split <;> split <;> omega) (fun q u hq => by
        rw [List.getElem?_take] at hq
        split at hq
        · exact hcell q u hq
        · cases hq) (by rw [hsz, List.length_take, hl1]; omega) (fun u hu => h1 u (List.mem_of_mem_take hu)))
    rw [hrun]
    have hcl : (news.take (min es2.length len)).length = min es2.length len := by rw [List.length_take, hl1]; omega
    have hf := fin (news.take (min es2.length len)) hcl (fun q y t' hy ht => by
      rw [List.getElem?_take] at hy
      split at hy
      · rename_i hq
        obtain ⟨u, q1, q2⟩ := hrep q 0 y t' hy ht
        rw [Nat.mul_one, Nat.add_zero] at q1
        exact ⟨u, by rw [List.getElem?_take, if_pos hq]; exact q1, q2⟩
      · cases hy)
    rw [goI]
    unfold qdH at hf
    rw [hcl] at hf ⊢
    exact hK _ _ (ql9 (v := .c (.t (.int .i64 _))) hf (.int _ _) hd')
theorem zrP {t : TypeId} {x ix : Operand} {s : ByteArray} {k : IntKind} {i : Int} {r : UInt8} (ho : o.op = .index t x ix) (ht : P.underlying t = some .string)
    (hx : st.ev x = .c (.t (.str s))) (hi : st.ev ix = .c (.t (.int k i))) (h0 : 0 ≤ i) (hr : s.data.toList[i.toNat]? = some r) : qe2 P cx o st (.c (.t (.int .u8 r.toNat))) := by
  intro L I a w h
  have hv := h.ev x
  rw [hx] at hv
  have hs : a.eval x = .string s := Rep.str_inv hv
  have hlt : i.toNat < s.size := by
    have := (List.getElem?_eq_some_iff.1 hr).1
    simpa using this
  refine ⟨.int .u8 r.toNat, ?_, .int _ _⟩
  have he : s[i.toNat]'hlt = r := by
    obtain ⟨q, hq⟩ := List.getElem?_eq_some_iff.1 hr
    rw [Array.getElem_toList] at hq
    exact hq
  simp [execOp, ho, hs, qjE h hi, run_index_string w t s k i ht, h0, show i < (s.size : Int) by omega, he]
end
theorem y_app0 {P : Program} {cx : Cx} {o : Oper} {st : St} {t : TypeId} {s x : Operand} {e sz by' : Nat} {z : Value} (ho : o.op = .call { callee := .builtin .append, args := #[s, x], argTypes := #[t, t] })
    (hi : qi8 P t = some (e, sz, by', z)) (hs : st.ev s = .c .nil) (hn : zdF st.hp sz (st.ev x) []) : qe2 P cx o st (.c .nil) := by
  intro L I a w h
  obtain ⟨ad, cap, hx, _, _⟩ := hn.R h (h.ev x)
  have hv := h.ev s
  rw [hs] at hv
  obtain ⟨aas, hsv⟩ := hv
  obtain ⟨i, hu, hie, rfl, rfl, hz0, hzs⟩ := qj8 hi
  have hr : (Builtin.append_ #[t, t] o.type #[.slice aas 0 0, .slice ad 0 cap]).run P w = .ok (.slice aas 0 0) w := by
    cases ad <;> cases aas <;>
      simp [Builtin.append_, run_underlying hu, qlG hie, Builtin.lenOf, Builtin.firstCells, loadCells, loadCellsFrom, storeCells]
  exact ⟨_, qmH ho hsv hx hr, aas, rfl⟩
section
variable {P : Program} {cx : Cx} {o : Oper} {st : St}
theorem zyK {t : TypeId} {e sz by' : Nat} {z : Value} (ho : o.op = .buildSlice t 0 #[]) (hi : qi8 P t = some (e, sz, by', z)) : OpOK P cx o st (st.put? o.dst (.c .nil)) := by
  intro hd' a w hs K Q hK
  obtain ⟨L, I, h⟩ := hs
  obtain ⟨i, hu, hie, rfl, rfl, hz0, hzs⟩ := qj8 hi
  have hrun : (execOp a.eval o).run P w = .ok (.value (.slice (some ⟨w.heap.size, 0, none⟩) 0 0)) (w.alloc (.cells #[] e)) := by
    have hb : (Instr.buildSlice t 0 #[]).run P w = .ok (.slice (some ⟨w.heap.size, 0, none⟩) 0 0) (w.alloc (.cells #[] e)) := by
      simp [Instr.buildSlice, run_underlying hu, sizeOf, typeInfo, hie, Instr.fill, newRow]
      congr 2
      exact Array.eq_empty_of_size_eq_zero (by simp)
    simp [execOp, ho, hb]
  have h' := h.after (I' := I) (w' := w.alloc (.cells #[] e)) ((Below.refl _ _).alloc (Nat.le_refl _) _) (fun _ _ h => h) (fun _ _ h => .inl h) (fun b o hb => by have := h.ib b o hb; simp; omega)
  unfold Oper.wp
  rw [hrun]
  exact hK _ _ (ql9 h' ⟨_, rfl⟩ hd')
end
theorem zyI {P : Program} {cx : Cx} {o : Oper} {st : St} {j e sz n : Nat} {es : List (List T)} (h : OpOK P cx o st ((st.addB j (.row e sz es 0)).put j (.c (.row j 0 n)))) (hl : es.length = n) (hjn : st.hp.lookup j = none) :
    OpOK P cx o st (st.put j (.c (.t (.sl sz es)))) := by
  subst hl
  intro hd' a w hsim K Q hK
  refine h hd' a w hsim K Q fun a' w' hs' => hK a' w' ?_
  have h1 : ((st.addB j (.row e sz es 0)).put j (.c (.row j 0 es.length))).tm.lookup j = some (.c (.row j 0 es.length)) := by rw [St.put_lookup]; simp
  have h2 := Sim.snap (e := e) (sz := sz) (es := es) (fz := 0) hs' h1 (by show (st.addB j _).hp.lookup j = _; rw [St.addB_lookup, if_pos rfl])
  have h3 : ((es.drop 0).take es.length) = es := by simp
  rw [h3] at h2
  obtain ⟨L, I, h2⟩ := h2
  refine ⟨L, I, h2.sub ?_ ?_ rfl⟩
  · intro k v hv
    rw [St.put_lookup] at hv ⊢
    split at hv
    · rename_i e; subst e; simpa using hv
    · rename_i hne
      rw [if_neg hne]
      show ((st.addB j (.row e sz es 0)).put j (.c (.row j 0 es.length))).tm.lookup k = _
      rw [St.put_lookup, if_neg hne]; exact hv
  · intro k b hb
    have hne : k ≠ j := fun e => by subst e; rw [show (st.put k _).hp.lookup k = st.hp.lookup k from rfl, hjn] at hb; cases hb
    show (((st.addB j (.row e sz es 0)).put j (.c (.row j 0 es.length))).addB j (.row e sz es (max 0 (0 + es.length)))).hp.lookup k = _
    rw [St.addB_lookup, if_neg hne]
    show (st.addB j _).hp.lookup k = _
    rw [St.addB_lookup, if_neg hne]; exact hb
def capOf : V → Option Cap
  | .c (.ptr j k) => some (.ptr j k)
  | .c (.t x) => some (.t x)
  | _ => none
def zo7 : List V → Option (List Cap)
  | [] => some []
  | v :: vs => match capOf v, zo7 vs with
    | some x, some xs => some (x :: xs)
    | _, _ => none
theorem zjP : ∀ {vs : List V} {xs : List Cap}, zo7 vs = some xs → vs = xs.map capV
  | [], xs, h => by simp only [zo7] at h; cases h; rfl
  | v :: vs, xs, h => by
    simp only [zo7] at h
    split at h
    · rename_i x xs' h1 h2
      cases h
      rw [zjP h2, List.map_cons]
      congr 1
      unfold capOf at h1
      split at h1 <;> cases h1 <;> rfl
    · cases h
def infO (P : Program) (st : St) (o : Oper) : H → Option (Inf × List Prop)
  | .p => match o.op with
    | .alloc t => match o.dst, (P.info? t).bind (·.zero) with
      | some j, some z => if z.cells.all (·.oneCell') then some (⟨[], [j], ⟨some (j, .c (.ptr j 0)), some (j, .var (z.cells.toList.map qpG))⟩⟩, []) else none
      | _, _ => none
    | .box _ x => match o.dst, (st.ev x).cellsL st.hp with
      | some j, some xs => if qpF (some j) xs then some (⟨rkOf st o, [j], ⟨some (j, .c (.ptr j 0)), some (j, .var xs)⟩⟩, []) else none
      | _, _ => none
    | .store t p x => match o.dst, st.ev p with
      | none, .c (.ptr j k) => match st.hp.lookup j, (st.ev x).cellsL st.hp, (P.info? t).map (·.size) with
        | some (.var cs), some xs, some n => if xs.length = n ∧ k + n ≤ cs.length then some (⟨rkOf st o, [], ⟨none, some (j, .var (qdH cs k xs))⟩⟩, []) else none
        | _, _, _ => none
      | _, _ => none
    | op => (qpW P st.hp st.ev op).map fun v => (⟨rkOf st o, [], ⟨o.dst.map fun t => (t, v), none⟩⟩, [])
  | .ix el => match o.op with
    | .indexAddr t x ix => match st.ev x, st.ev ix, qjW P t with
      | .c (.t (.sl sz es)), .c (.t (.int _ i)), some sz' => if sz = sz' then some (⟨[], [], ⟨o.dst.map fun t => (t, .c (.ep el 0)), none⟩⟩, [0 ≤ i, es[i.toNat]? = some el]) else none
      | _, _, _ => none
    | _ => none
  | .ir => match o.op with
    | .indexAddr t x ix => match st.ev x, st.ev ix, qjW P t with
      | .c (.row j off len), .c (.t (.int _ i)), some sz' => match st.hp.lookup j with
        | some (.row _ sz _ _) => if sz = sz' then some (⟨rkOf st o, [], ⟨o.dst.map fun t => (t, .c (.rptr j (off + i.toNat) 0)), none⟩⟩, [0 ≤ i, i < len]) else none
        | _ => none
      | _, _, _ => none
    | _ => none
  | .ld el => match o.op with
    | .load t x => match st.ev x, qpC P t with
      | .c (.rptr j i k), some (false, _) => match st.hp.lookup j, el[k]? with
        | some (.row _ _ es _), some y => some (⟨rkOf st o, [], ⟨o.dst.map fun t => (t, .c (.t y)), none⟩⟩, [es[i]? = some el])
        | _, _ => none
      | .c (.rptr j i k), some (true, n) => match st.hp.lookup j with
        | some (.row _ _ es _) => if ((el.drop k).take n).length = n then some (⟨rkOf st o, [], ⟨o.dst.map fun t => (t, .agg (((el.drop k).take n).map .t)), none⟩⟩, [es[i]? = some el]) else none
        | _ => none
      | _, _ => none
    | _ => none
  | .st el es' => match o.op, o.dst with
    | .store t p x, none => match st.ev p with
      | .c (.rptr j i k) => match st.hp.lookup j, (st.ev x).cellsL st.hp, (P.info? t).map (·.size) with
        | some (.row e sz es fz), some xs, some n => match qrZ (fun q => szAt el (k + q)) 0 xs with
          | some ys => if ys.length = n ∧ k + n ≤ sz then some (⟨rkOf st o, [], ⟨none, some (j, .row e sz es' fz)⟩⟩, [es[i]? = some el, es.set i (qdH el k ys) = es', fz ≤ i]) else none
          | none => none
        | _, _, _ => none
      | _ => none
    | _, _ => none
  | .mk zt es' => match o.op, o.dst with
    | .makeSlice t l c, some j => match st.ev l, st.ev c, qi8 P t with
      | .c (.t (.int _ n)), .c (.t (.int _ m)), some (e, sz, by', z) => if 0 < sz ∧ 0 < by' ∧ q73 z.cells.toList zt = true then
          some (⟨[], [j], ⟨some (j, .c (.row j 0 n.toNat)), some (j, .row e sz es' 0)⟩⟩, [0 ≤ n, n ≤ m, (by' : Int) * m ≤ 140737488355328, List.replicate n.toNat zt = es']) else none
      | _, _, _ => none
    | _, _ => none
  | .lit es => match o.op, o.dst with
    | .buildSlice t len parts, some j => match qi8 P t, qtV st parts.toList with
      | some (e, sz, _, z), some qs => match znH (fun i => some (i * sz, sz)) (((Array.range (len * sz)).map (z.cells[· % z.cells.size]!)).toList.map qpG) qs with
        | some ds => match qrZ (szAt es.flatten) 0 ds with
          | some fl => if 0 < sz ∧ z.cells.all (·.oneCell') = true ∧ 0 < len ∧ len * sz ≤ 16777216 ∧ es.all (fun x => x.length == sz) = true ∧ es.length = len then
              some (⟨rkOf st o, [j], ⟨some (j, .c (.row j 0 len)), some (j, .row e sz es 0)⟩⟩, [fl = es.flatten]) else none
          | none => none
        | none => none
      | _, _ => none
    | _, _ => none
  | .call hss _ res => match o.op with
    | .call { callee := .value x, args, argTypes := _ } => match st.ev x, zdE st hss args.toList with
      | .c (.t (.fn f)), some ys => if qjV P f then some (⟨[], [], ⟨o.dst.map fun t => (t, res.toV), none⟩⟩, [qc7 P f ys res]) else none
      | _, _ => none
    | _ => none
  | .slT l h es' => match o.op with
    | .slice t x lo hi none => match st.ev x, qjW P t with
      | .c (.t (.sl sz es)), some sz' => match bndP st lo 0 l, bndP st hi es.length h with
        | some p, some q => if sz = sz' then some (⟨[], [], ⟨o.dst.map fun t => (t, .c (.t (.sl sz es'))), none⟩⟩, [p, q, l ≤ h, h ≤ es.length, (es.take h).drop l = es']) else none
        | _, _ => none
      | _, _ => none
    | _ => none
  | .slR l h off' len' => match o.op with
    | .slice t x lo hi none => match st.ev x, qjW P t with
      | .c (.row j off len), some sz' => match st.hp.lookup j, bndP st lo 0 l, bndP st hi len h with
        | some (.row _ sz _ _), some p, some q => if sz = sz' then some (⟨rkOf st o, [], ⟨o.dst.map fun t => (t, .c (.row j off' len')), none⟩⟩, [p, q, l ≤ h, h ≤ len, l = 0 ∨ l < len, off + l = off', h - l = len']) else none
        | _, _, _ => none
      | .c .nil, some _ => match bndP st lo 0 0, bndP st hi 0 0 with
        | some p, some q => some (⟨[], [], ⟨o.dst.map fun t => (t, .c .nil), none⟩⟩, [p, q])
        | _, _ => none
      | _, _ => none
    | _ => none
  | .sl0 => match o.op with
    | .slice t x none (some y) (some z) => match st.ev x, st.ev y, st.ev z, qjW P t with
      | .c (.t (.sl sz _)), .c (.t (.int _ n)), .c (.t (.int _ m)), some sz' => if sz = sz' ∧ n = 0 ∧ m = 0 then some (⟨[], [], ⟨o.dst.map fun t => (t, .c .nil), none⟩⟩, []) else none
      | _, _, _, _ => none
    | _ => none
  | .clip l h m off' len' => match o.op with
    | .slice t x lo (some hi) (some mx) => match st.ev x, qjW P t with
      | .c (.row j off len), some sz' => match st.hp.lookup j, bndP st lo 0 l, bndP st (some hi) len h, bndP st (some mx) 0 m with
        | some (.row _ sz _ _), some p, some q, some r => if sz = sz' then some (⟨rkOf st o, [], ⟨o.dst.map fun t => (t, .c (.clip j off' len')), none⟩⟩, [p, q, r, l ≤ h, h ≤ m, m ≤ len, l = 0 ∨ l < m, off + l = off', h - l = len']) else none
        | _, _, _, _ => none
      | _, _ => none
    | _ => none
  | .appN es' => match o.op, o.dst with
    | .call { callee := .builtin .append, args, argTypes }, some j => match args.toList, argTypes.toList with
      | [s, x], [t, t'] => match st.ev s, qi8 P t with
        | .c .nil, some (e, sz, by', _) => match q3E st.hp sz (st.ev x) with
          | some es => if t = t' ∧ 0 < sz then some (⟨rkOf st o, [j], ⟨some (j, .c (.row j 0 es'.length)), some (j, .row e sz es' 0)⟩⟩, [es = es', 0 < es'.length, es'.length * by' ≤ 140737488355328, es'.length ≤ maxLen]) else none
          | none => none
        | _, _ => none
      | _, _ => none
    | _, _ => none
  | .ln n => match o.op with
    | .call { callee := .builtin .len, args, argTypes } => match args.toList, argTypes.toList with
      | [x], [t] => match st.ev x with
        | .c (.t (.sl _ es)) => if (qjW P t).isSome then some (⟨[], [], ⟨o.dst.map fun d => (d, intV .i64 n), none⟩⟩, [(es.length : Int) = n]) else none
        | _ => none
      | _, _ => none
    | _ => none
  | .dv => match o.op with
    | .binOp op _ x y _ => match st.ev x, st.ev y with
      | .c (.t (.int k m)), .c (.t (.int k' n)) => match op with
        | .quo => if k = k' then some (⟨[], [], ⟨o.dst.map fun d => (d, intV k (k.wrap (m.tdiv n))), none⟩⟩, [n ≠ 0]) else none
        | .rem => if k = k' then some (⟨[], [], ⟨o.dst.map fun d => (d, intV k (m.tmod n)), none⟩⟩, [n ≠ 0]) else none
        | .shl => some (⟨[], [], ⟨o.dst.map fun d => (d, intV k (qi3 k m n)), none⟩⟩, [0 ≤ n])
        | .shr => some (⟨[], [], ⟨o.dst.map fun d => (d, intV k (qdG k m n)), none⟩⟩, [0 ≤ n])
        | _ => none
      | _, _ => none
    | _ => none
  | .sx r => match o.op with
    | .index t x ix => match st.ev x, st.ev ix with
      | .c (.t (.str s)), .c (.t (.int _ i)) => if zvM P t = true then some (⟨[], [], ⟨o.dst.map fun d => (d, intV .u8 r), none⟩⟩, [0 ≤ i, (s.data.toList.map fun c => (c.toNat : Int))[i.toNat]? = some r]) else none
      | _, _ => none
    | _ => none
  | .cp es2 es' n => match o.op with
    | .call { callee := .builtin .copy, args, argTypes } => match args.toList, argTypes.toList with
      | [d, x], [t, _] => match st.ev d, qi8 P t with
        | .c (.row j off len), some (e, 1, _, _) => match st.hp.lookup j, q3E st.hp 1 (st.ev x) with
          | some (.row e' 1 es 0), some new => if e = e' then some (⟨rkOf st o, [], ⟨o.dst.map fun q => (q, intV .i64 n), some (j, .row e 1 es' 0)⟩⟩, [new = es2, qdH es off (es2.take (min es2.length len)) = es', ((min es2.length len : Nat) : Int) = n]) else none
          | _, _ => none
        | _, _ => none
      | _, _ => none
    | _ => none
  | .slM l h m es' => match o.op with
    | .slice t x lo (some hi) (some mx) => match st.ev x, qjW P t with
      | .c (.t (.sl sz es)), some sz' => match bndP st lo 0 l, bndP st (some hi) es.length h, bndP st (some mx) 0 m with
        | some p, some q, some r => if sz = sz' then some (⟨[], [], ⟨o.dst.map fun t => (t, .c (.t (.sl sz es'))), none⟩⟩, [p, q, r, l ≤ h, h ≤ m, m ≤ es.length, (es.take h).drop l = es']) else none
        | _, _, _ => none
      | _, _ => none
    | _ => none
  | .litT es => match o.op, o.dst with
    | .buildSlice t len parts, some j => match qi8 P t, qtV st parts.toList, st.hp.lookup j with
      | some (_, sz, _, z), some qs, none => match znH (fun i => some (i * sz, sz)) (((Array.range (len * sz)).map (z.cells[· % z.cells.size]!)).toList.map qpG) qs with
        | some ds => match qrZ (szAt es.flatten) 0 ds with
          | some fl => if 0 < sz ∧ z.cells.all (·.oneCell') = true ∧ 0 < len ∧ len * sz ≤ 16777216 ∧ es.all (fun x => x.length == sz) = true ∧ es.length = len then
              some (⟨j :: rkOf st o, [j], ⟨some (j, .c (.t (.sl sz es))), none⟩⟩, [fl = es.flatten]) else none
          | none => none
        | none => none
      | _, _, _ => none
    | _, _ => none
  | .clo => match o.op with
    | .makeFunc (.func f) first captured => match zo7 (captured.toList.map st.ev) with
      | some caps => if first = #[] then some (⟨[], [], ⟨o.dst.map fun t => (t, .c (.fn f caps)), none⟩⟩, []) else none
      | none => none
    | _ => none
  | .app0 => match o.op with
    | .call { callee := .builtin .append, args, argTypes } => match args.toList, argTypes.toList with
      | [s, x], [t, t'] => match st.ev s, qi8 P t with
        | .c .nil, some (_, sz, _, _) => match q3E st.hp sz (st.ev x) with
          | some new => if t = t' then some (⟨rkOf st o, [], ⟨o.dst.map fun q => (q, .c .nil), none⟩⟩, [new = []]) else none
          | none => none
        | _, _ => none
      | _, _ => none
    | _ => none
  | .pk b => match o.op with
    | .pick c x y => match st.ev c with
      | .c (.t (.bool b')) => some (⟨[], [], ⟨o.dst.map fun t => (t, match b with | true => st.ev x | false => st.ev y), none⟩⟩, [b' = b])
      | _ => none
    | _ => none
  | .ia n => match o.op with
    | .indexAddr t x ix => match st.ev x, st.ev ix, zaS P t with
      | .c (.ptr j q), .c (.t (.int _ i)), some (m, sz) => if n < m ∧ (st.hp.lookup j).isSome then some (⟨rkOf st o, [], ⟨o.dst.map fun t => (t, .c (.ptr j (q + n * sz))), none⟩⟩, [i = (n : Int)]) else none
      | .c (.ep el q), .c (.t (.int _ i)), some (m, sz) => if n < m then some (⟨rkOf st o, [], ⟨o.dst.map fun t => (t, .c (.ep el (q + n * sz))), none⟩⟩, [i = (n : Int)]) else none
      | .c (.rptr j r q), .c (.t (.int _ i)), some (m, sz) => match st.hp.lookup j with
        | some (.row ..) => if n < m then some (⟨rkOf st o, [], ⟨o.dst.map fun t => (t, .c (.rptr j r (q + n * sz))), none⟩⟩, [i = (n : Int)]) else none
        | _ => none
      | _, _, _ => none
    | _ => none
  | .mv => match o.op with
    | .move x => some (⟨[], [], ⟨o.dst.map fun q => (q, st.ev x), none⟩⟩, [])
    | _ => none
  | .eq4 => match o.op with
    | .binOp .eql t x y _ => match zrX (st.ev x), zrX (st.ev y) with
      | some (k, a, b, c, d), some (k', a', b', c', d') => if k' = k ∧ zyZ P t = true then some (⟨[], [], ⟨o.dst.map fun q => (q, .c (.t (.bool (decide (a = a') && (decide (b = b') && (decide (c = c') && decide (d = d'))))))), none⟩⟩, []) else none
      | _, _ => none
    | _ => none
  | .iv n => match o.op with
    | .index t x ix => match st.ev x, st.ev ix, zuD P t with
      | .agg cs, .c (.t (.int _ i)), some (m, e) => match (P.info? e).map (·.size) with
        | some sz => match (match qpC P e with
            | some (false, _) => if (P.info? e).map (·.size) = some sz then (cs[n * sz]?).map V.c else none
            | some (true, m) => if m = sz ∧ ((cs.drop (n * sz)).take sz).length = sz then some (.agg ((cs.drop (n * sz)).take sz)) else none
            | none => none) with
          | some v => if n < m then some (⟨[], [], ⟨o.dst.map fun t => (t, v), none⟩⟩, [i = (n : Int)]) else none
          | none => none
        | none => none
      | _, _, _ => none
    | _ => none
  | .lit0 => match o.op with
    | .buildSlice t 0 parts => match qi8 P t with
      | some _ => if parts = #[] then some (⟨[], [], ⟨o.dst.map fun q => (q, .c .nil), none⟩⟩, []) else none
      | none => none
    | _ => none
  | _ => none
section
variable {P : Program} {cx : Cx} {o : Oper} {st : St}
theorem qpH {σ : St} (h : zd1 st σ (rkOf st o)) {x : Operand} (hx : x ∈ o.op.operands.toList) {j : Nat} (hj : j ∈ (st.ev x).keys) : σ.hp.lookup j = st.hp.lookup j :=
  qp7 h j (by simp only [rkOf, List.mem_flatMap]; exact ⟨x, hx, hj⟩)
theorem q3D {hp hp' : List (Nat × Blk)} {sz : Nat} {v : V} (h : ∀ j ∈ v.keys, hp'.lookup j = hp.lookup j) : q3E hp' sz v = q3E hp sz v := by
  cases v with
  | c x =>
    cases x with
    | row j off len => simp only [q3E]; rw [h j (by simp [V.keys, C.keys])]
    | clip j off len => simp only [q3E]; rw [h j (by simp [V.keys, C.keys])]
    | t y => cases y <;> rfl
    | _ => rfl
  | agg => rfl
  | tup => rfl
theorem zp2 : ∀ {h : H} {i : Inf} {φs : List Prop}, infO P st o h = some (i, φs) → AllP φs → Eff P cx o st i.rk i.fresh i.u
  | .p, i, φs, h, _ => by
    simp only [infO] at h
    split at h
    · rename_i t hop
      split at h
      · rename_i j z hd hz
        split at h
        · rename_i hc; cases h; exact zt1 hop hd hz hc rfl
        · cases h
      · cases h
    · rename_i t x hop
      split at h
      · rename_i j xs hd hx
        split at h
        · rename_i hc; cases h; exact zy1 hop hd hx (za8 st o) hc
        · cases h
      · cases h
    · rename_i t p x hop
      split at h
      · rename_i j k hd hp
        split at h
        · rename_i cs xs n hj hx hn
          split at h
          · rename_i hc
            cases h
            exact ztZ hop hd hp hj hx hc.1 hn hc.2 (za8 st o)
          · cases h
        · cases h
      · cases h
    · obtain ⟨v, h1, h2⟩ := Option.map_eq_some_iff.1 h
      cases h2
      exact zvS h1 (za8 st o)
  | .ix el, i, φs, h, hφ => by
    simp only [infO] at h
    split at h
    · rename_i t x ix hop
      split at h
      · rename_i sz es k n sz' hx hi hs
        split at h
        · rename_i e; subst e
          cases h
          obtain ⟨h0, he, _⟩ := hφ
          exact qjF fun σ hev _ => zqD hop hs ((qbD hev x (by rw [hop]; simp [Op.operands])).trans hx) ((qbD hev ix (by rw [hop]; simp [Op.operands])).trans hi) h0 he
        · cases h
      · cases h
    · cases h
  | .ir, i, φs, h, hφ => by
    simp only [infO] at h
    split at h
    · rename_i t x ix hop
      split at h
      · rename_i j off len k n sz' hx hi hs
        split at h
        · rename_i hj
          split at h
          · rename_i e; subst e
            cases h
            obtain ⟨h0, h1, _⟩ := hφ
            have hxo : x ∈ o.op.operands.toList := by rw [hop]; simp [Op.operands]
            exact qjF fun σ hev hb => zxT hop hs ((qbD hev x hxo).trans hx) ((qpH hb hxo (by rw [hx]; simp [V.keys, C.keys])).trans hj) ((qbD hev ix (by rw [hop]; simp [Op.operands])).trans hi) h0 h1
          · cases h
        · cases h
      · cases h
    · cases h
  | .ld el, i, φs, h, hφ => by
    simp only [infO] at h
    split at h
    · rename_i t x hop
      have hxo : x ∈ o.op.operands.toList := by rw [hop]; simp [Op.operands]
      split at h
      · rename_i j q k n hx hl
        split at h
        · rename_i y hj hy
          cases h
          exact qjF fun σ hev hb => zxQ hop hl ((qbD hev x hxo).trans hx) ((qpH hb hxo (by rw [hx]; simp [V.keys, C.keys])).trans hj) hφ.1 hy
        · cases h
      · rename_i j q k n hx hl
        split at h
        · rename_i hj
          split at h
          · rename_i hn
            cases h
            exact qjF fun σ hev hb => zuP hop hl ((qbD hev x hxo).trans hx) ((qpH hb hxo (by rw [hx]; simp [V.keys, C.keys])).trans hj) hφ.1 rfl hn
          · cases h
        · cases h
      · cases h
    · cases h
  | .st el es', i, φs, h, hφ => by
    simp only [infO] at h
    split at h
    · rename_i t p x hop hd
      split at h
      · rename_i j q k hp
        split at h
        · rename_i e sz es fz xs n hj hx hn
          split at h
          · rename_i ys hy
            split at h
            · rename_i hc
              cases h
              obtain ⟨h1, h2, h3, _⟩ := hφ
              subst h2
              exact zr3 _ hop hd hp hj h1 hx hy hc.1 hn hc.2 h3 (za8 st o)
            · cases h
          · cases h
        · cases h
      · cases h
    · cases h
  | .mk zt es', i, φs, h, hφ => by
    simp only [infO] at h
    split at h
    · rename_i t l c j hop hd
      split at h
      · rename_i kl n kc m e sz by' z hl hc hi
        split at h
        · rename_i hh
          cases h
          obtain ⟨h0, h1, h2, h3, _⟩ := hφ
          subst h3
          obtain ⟨h4, h5, h6⟩ := hh
          intro σ hev _ hf
          have hm : m ≤ (by' : Int) * m := by
            have h7 : (1 : Int) ≤ (by' : Int) := by omega
            have := Int.mul_le_mul_of_nonneg_right h7 (show (0 : Int) ≤ m by omega)
            omega
          exact zyJ hop hd ((qbD hev l (by rw [hop]; simp [Op.operands])).trans hl) ((qbD hev c (by rw [hop]; simp [Op.operands])).trans hc) h0 h1 (by omega) (by omega) hi h4 h6 (hf j (by simp))
        · cases h
      · cases h
    · cases h
  | .lit es, i, φs, h, hφ => by
    simp only [infO] at h
    split at h
    · rename_i t len parts j hop hd
      split at h
      · rename_i e sz by' z qs hi hq
        split at h
        · rename_i ds hfl
          split at h
          · rename_i fl htr
            split at h
            · rename_i hc
              cases h
              obtain ⟨h1, h2, h3, h4, h5, h6⟩ := hc
              have hfe := hφ.1
              subst hfe
              exact zt0 _ hop hd hi h1 h2 h3 h4 hq hfl htr (fun x hx => by simpa using List.all_eq_true.1 h5 x hx) h6 (za8 st o)
            · cases h
          · cases h
        · cases h
      · cases h
    · cases h
  | .call hss ys res, i, φs, h, hφ => by
    simp only [infO] at h
    split at h
    · rename_i x args tys hop
      split at h
      · rename_i f ys hx ha
        split at h
        · rename_i hc
          cases h
          have hop' : o.op = .call { callee := .value x, args := args.toList.toArray, argTypes := tys } := by simpa using hop
          exact zvT hop' hx hc ha hφ.1
        · cases h
      · cases h
    · cases h
  | .slT l hh es', i, φs, h, hφ => by
    simp only [infO] at h
    split at h
    · rename_i t x lo hi hop
      split at h
      · rename_i sz es sz' hx hs
        split at h
        · rename_i p q hp hq
          split at h
          · rename_i e; subst e
            cases h
            obtain ⟨h1, h2, h3, h4, h5, _⟩ := hφ
            subst h5
            exact qjF fun σ hev _ => zqC hop hs ((qbD hev x (by rw [hop]; simp [Op.operands])).trans hx)
              (qn1 hp h1 fun y hy => qbD hev y (by rw [hop]; subst hy; simp [Op.operands]))
              (qn1 hq h2 fun y hy => qbD hev y (by rw [hop]; subst hy; simp [Op.operands])) (.inl rfl) (m := 0) h3 h4
          · cases h
        · cases h
      · cases h
    · cases h
  | .slR l hh off' len', i, φs, h, hφ => by
    simp only [infO] at h
    split at h
    · rename_i t x lo hi hop
      have hxo : x ∈ o.op.operands.toList := by rw [hop]; simp [Op.operands]
      split at h
      · rename_i j off len sz' hx hs
        split at h
        · rename_i p q hj hp hq
          split at h
          · rename_i e; subst e
            cases h
            obtain ⟨h1, h2, h3, h4, h5, h6, h7, _⟩ := hφ
            subst h6; subst h7
            exact qjF fun σ hev hb => zuM hop hs ((qbD hev x hxo).trans hx) ((qpH hb hxo (by rw [hx]; simp [V.keys, C.keys])).trans hj)
              (qn1 hp h1 fun y hy => qbD hev y (by rw [hop]; subst hy; simp [Op.operands]))
              (qn1 hq h2 fun y hy => qbD hev y (by rw [hop]; subst hy; simp [Op.operands])) h3 h4 h5
          · cases h
        · cases h
      · rename_i sz' hx hs
        split at h
        · rename_i p q hp hq
          cases h
          obtain ⟨h1, h2, _⟩ := hφ
          exact qjF fun σ hev hb => zuN hop hs ((qbD hev x hxo).trans hx)
              (qn1 hp h1 fun y hy => qbD hev y (by rw [hop]; subst hy; simp [Op.operands]))
              (qn1 hq h2 fun y hy => qbD hev y (by rw [hop]; subst hy; simp [Op.operands]))
        · cases h
      · cases h
    · cases h
  | .sl0, i, φs, h, _ => by
    simp only [infO] at h
    split at h
    · rename_i t x y z hop
      split at h
      · rename_i sz es k n k' m sz' hx hy hz hs
        split at h
        · rename_i hc
          obtain ⟨rfl, rfl, rfl⟩ := hc
          cases h
          exact qjF fun σ hev _ => zuO hop hs ((qbD hev x (by rw [hop]; simp [Op.operands])).trans hx) ((qbD hev y (by rw [hop]; simp [Op.operands])).trans hy) ((qbD hev z (by rw [hop]; simp [Op.operands])).trans hz)
        · cases h
      · cases h
    · cases h
  | .clip l hh m off' len', i, φs, h, hφ => by
    simp only [infO] at h
    split at h
    · rename_i t x lo hi mx hop
      have hxo : x ∈ o.op.operands.toList := by rw [hop]; simp [Op.operands]
      split at h
      · rename_i j off len sz' hx hs
        split at h
        · rename_i p q r hj hp hq hr
          split at h
          · rename_i e; subst e
            cases h
            obtain ⟨h1, h2, h3, h4, h5, h6, h7, h8, h9, _⟩ := hφ
            subst h8; subst h9
            exact qjF fun σ hev hb => zsB hop hs ((qbD hev x hxo).trans hx) ((qpH hb hxo (by rw [hx]; simp [V.keys, C.keys])).trans hj)
              (qn1 hp h1 fun y hy => qbD hev y (by rw [hop]; subst hy; simp [Op.operands]))
              (qn1 hq h2 fun y hy => qbD hev y (by rw [hop]; cases hy; simp [Op.operands])) rfl rfl
              (qn1 hr h3 fun y hy => qbD hev y (by rw [hop]; cases hy; simp [Op.operands])) h4 h5 h6 h7
          · cases h
        · cases h
      · cases h
    · cases h
  | .appN es', i, φs, h, hφ => by
    simp only [infO] at h
    split at h
    · rename_i args tys j hop hd
      split at h
      · rename_i s x t t' ha ht
        have ha' : args = #[s, x] := by rw [← Array.toArray_toList (xs := args), ha]
        have ht' : tys = #[t, t'] := by rw [← Array.toArray_toList (xs := tys), ht]
        subst ha'; subst ht'
        split at h
        · rename_i e sz by' z hs hi
          split at h
          · rename_i es hn
            split at h
            · rename_i hc
              obtain ⟨rfl, hsz⟩ := hc
              cases h
              obtain ⟨h1, h2, h3, h4, _⟩ := hφ
              subst h1
              intro σ hev hb hf
              have hso : s ∈ o.op.operands.toList := by rw [hop]; simp [Op.operands, Call.operands]
              have hxo : x ∈ o.op.operands.toList := by rw [hop]; simp [Op.operands, Call.operands]
              refine zl6 hop hd hi hsz ((qbD hev s hso).trans hs) (qwB ?_) h2 h3 h4 (hf j (by simp))
              rw [qbD hev x hxo, q3D fun k hk => qpH hb hxo hk]
              exact hn
            · cases h
          · cases h
        · cases h
      · cases h
    · cases h
  | .ln n, i, φs, h, hφ => by
    simp only [infO] at h
    split at h
    · rename_i args tys hop
      split at h
      · rename_i x t ha ht
        have ha' : args = #[x] := by rw [← Array.toArray_toList (xs := args), ha]
        have ht' : tys = #[t] := by rw [← Array.toArray_toList (xs := tys), ht]
        subst ha'; subst ht'
        split at h
        · rename_i sz es hx
          split at h
          · rename_i hs
            obtain ⟨sz', hs⟩ := Option.isSome_iff_exists.1 hs
            cases h
            rw [← hφ.1]
            exact qjF fun σ hev _ => zwJ hop hs ((qbD hev x (by rw [hop]; simp [Op.operands, Call.operands])).trans hx)
          · cases h
        · cases h
      · cases h
    · cases h
  | .dv, i, φs, h, hφ => by
    simp only [infO] at h
    split at h
    · rename_i op t x y t' hop
      have hxo : x ∈ o.op.operands.toList := by rw [hop]; simp [Op.operands]
      have hyo : y ∈ o.op.operands.toList := by rw [hop]; simp [Op.operands]
      split at h
      · rename_i k m k' n hx hy
        split at h
        · split at h
          · rename_i e; subst e; cases h
            exact qjF fun σ hev _ => y_quo hop ((qbD hev x hxo).trans hx) ((qbD hev y hyo).trans hy) hφ.1
          · cases h
        · split at h
          · rename_i e; subst e; cases h
            exact qjF fun σ hev _ => y_rem hop ((qbD hev x hxo).trans hx) ((qbD hev y hyo).trans hy) hφ.1
          · cases h
        · cases h
          exact qjF fun σ hev _ => y_shl hop ((qbD hev x hxo).trans hx) ((qbD hev y hyo).trans hy) hφ.1
        · cases h
          exact qjF fun σ hev _ => y_shr hop ((qbD hev x hxo).trans hx) ((qbD hev y hyo).trans hy) hφ.1
        · cases h
      · cases h
    · cases h
  | .sx r, i, φs, h, hφ => by
    simp only [infO] at h
    split at h
    · rename_i t x ix hop
      split at h
      · rename_i s k n hx hi
        split at h
        · rename_i ht
          cases h
          obtain ⟨h0, h1, _⟩ := hφ
          rw [List.getElem?_map, Option.map_eq_some_iff] at h1
          obtain ⟨c, h2, rfl⟩ := h1
          exact qjF fun σ hev _ => zrP hop (zmB ht) ((qbD hev x (by rw [hop]; simp [Op.operands])).trans hx) ((qbD hev ix (by rw [hop]; simp [Op.operands])).trans hi) h0 h2
        · cases h
      · cases h
    · cases h
  | .cp es2 es' n, i, φs, h, hφ => by
    simp only [infO] at h
    split at h
    · rename_i args tys hop
      split at h
      · rename_i d x t t' ha ht
        have ha' : args = #[d, x] := by rw [← Array.toArray_toList (xs := args), ha]
        have ht' : tys = #[t, t'] := by rw [← Array.toArray_toList (xs := tys), ht]
        subst ha'; subst ht'
        split at h
        · rename_i j off len e by' z hs hi
          split at h
          · rename_i e' es new hj hn
            split at h
            · rename_i e; subst e
              cases h
              obtain ⟨h1, h2, h3, _⟩ := hφ
              subst h1; subst h2; subst h3
              intro σ hev hb _
              have hdo : d ∈ o.op.operands.toList := by rw [hop]; simp [Op.operands, Call.operands]
              have hxo : x ∈ o.op.operands.toList := by rw [hop]; simp [Op.operands, Call.operands]
              have hn' := q3D (hp := st.hp) (hp' := σ.hp) (sz := 1) (v := st.ev x) (fun k hk => qpH hb hxo hk)
              have := zyL (cx := cx) (st := σ) hop hi ((qbD hev d hdo).trans hs) ((qpH hb hdo (by rw [hs]; simp [V.keys, C.keys])).trans hj) (qwB (by rw [qbD hev x hxo, hn']; exact hn))
              cases hd : o.dst with
              | none => rw [hd] at this; exact this
              | some q => rw [hd] at this; exact this
            · cases h
          · cases h
        · cases h
      · cases h
    · cases h
  | .slM l hh m es', i, φs, h, hφ => by
    simp only [infO] at h
    split at h
    · rename_i t x lo hi mx hop
      split at h
      · rename_i sz es sz' hx hs
        split at h
        · rename_i p q r hp hq hr
          split at h
          · rename_i e; subst e
            cases h
            obtain ⟨h1, h2, h3, h4, h5, h6, h7, _⟩ := hφ
            subst h7
            exact qjF fun σ hev _ => zqC hop hs ((qbD hev x (by rw [hop]; simp [Op.operands])).trans hx)
              (qn1 hp h1 fun y hy => qbD hev y (by rw [hop]; subst hy; simp [Op.operands]))
              (qn1 hq h2 fun y hy => qbD hev y (by rw [hop]; cases hy; simp [Op.operands]))
              (.inr ⟨rfl, rfl, qn1 hr h3 fun y hy => qbD hev y (by rw [hop]; cases hy; simp [Op.operands]), h5, h6⟩) h4 (by omega)
          · cases h
        · cases h
      · cases h
    · cases h
  | .litT es, i, φs, h, hφ => by
    simp only [infO] at h
    split at h
    · rename_i t len parts j hop hd
      split at h
      · rename_i e sz by' z qs hi hq hjn
        split at h
        · rename_i ds hfl
          split at h
          · rename_i fl htr
            split at h
            · rename_i hc
              cases h
              obtain ⟨h1, h2, h3, h4, h5, h6⟩ := hc
              have hfe := hφ.1
              subst hfe
              intro σ hev hb hf
              have he := zt0 (cx := cx) _ hop hd hi h1 h2 h3 h4 hq hfl htr (fun x hx => by simpa using List.all_eq_true.1 h5 x hx) h6 (za8 st o) σ hev hb.2 hf
              exact zyI he h6 (hb.1.trans hjn)
            · cases h
          · cases h
        · cases h
      · cases h
    · cases h
  | .clo, i, φs, h, _ => by
    simp only [infO] at h
    split at h
    · rename_i f first captured hop
      split at h
      · rename_i caps hc
        split at h
        · rename_i e; subst e
          cases h
          refine qjF fun σ hev _ => zsE hop ?_
          rw [← zjP hc]
          apply List.map_congr_left
          intro x hx
          exact qbD hev x (by rw [hop]; simp [Op.operands]; exact Array.mem_toList_iff.1 hx)
        · cases h
      · cases h
    · cases h
  | .app0, i, φs, h, hφ => by
    simp only [infO] at h
    split at h
    · rename_i args tys hop
      split at h
      · rename_i s x t t' ha ht
        have ha' : args = #[s, x] := by rw [← Array.toArray_toList (xs := args), ha]
        have ht' : tys = #[t, t'] := by rw [← Array.toArray_toList (xs := tys), ht]
        subst ha'; subst ht'
        split at h
        · rename_i e sz by' z hs hi
          split at h
          · rename_i new hn
            split at h
            · rename_i e; subst e
              cases h
              have h1 := hφ.1
              subst h1
              have hso : s ∈ o.op.operands.toList := by rw [hop]; simp [Op.operands, Call.operands]
              have hxo : x ∈ o.op.operands.toList := by rw [hop]; simp [Op.operands, Call.operands]
              exact qjF fun σ hev hb => y_app0 hop hi ((qbD hev s hso).trans hs) (qwB (by rw [qbD hev x hxo, q3D fun k hk => qpH hb hxo hk]; exact hn))
            · cases h
          · cases h
        · cases h
      · cases h
    · cases h
  | .pk b, i, φs, h, hφ => by
    simp only [infO] at h
    split at h
    · rename_i c x y hop
      split at h
      · rename_i b' hc
        cases h
        obtain ⟨rfl, _⟩ := hφ
        have e1 : c ∈ o.op.operands.toList := by rw [hop]; simp [Op.operands]
        have e2 : x ∈ o.op.operands.toList := by rw [hop]; simp [Op.operands]
        have e3 : y ∈ o.op.operands.toList := by rw [hop]; simp [Op.operands]
        refine qjF fun σ hev _ => ?_
        cases b' with
        | true => exact zlR (b := true) hop ((qbD hev c e1).trans hc) (qbD hev x e2)
        | false => exact zlR (b := false) hop ((qbD hev c e1).trans hc) (qbD hev y e3)
      · cases h
    · cases h
  | .mv, i, φs, h, hφ => by
    simp only [infO] at h
    split at h
    · rename_i x hop
      cases h
      exact qjF fun σ hev _ => zwH hop (qbD hev x (by rw [hop]; simp [Op.operands]))
    · cases h
  | .eq4, i, φs, h, hφ => by
    simp only [infO] at h
    split at h
    · rename_i t x y t' hop
      have hxo : x ∈ o.op.operands.toList := by rw [hop]; simp [Op.operands]
      have hyo : y ∈ o.op.operands.toList := by rw [hop]; simp [Op.operands]
      split at h
      · rename_i k a b c d k' a' b' c' d' hx hy
        split at h
        · rename_i hc
          obtain ⟨rfl, hc⟩ := hc
          cases h
          exact qjF fun σ hev _ => y_eq4 hop hc (by rw [qbD hev x hxo]; exact hx) (by rw [qbD hev y hyo]; exact hy)
        · cases h
      · cases h
    · cases h
  | .iv n, i, φs, h, hφ => by
    simp only [infO] at h
    split at h
    · rename_i t x ix hop
      have hxo : x ∈ o.op.operands.toList := by rw [hop]; simp [Op.operands]
      have hio : ix ∈ o.op.operands.toList := by rw [hop]; simp [Op.operands]
      split at h
      · rename_i cs k ii m e hx hi ht
        split at h
        · rename_i sz hsz
          split at h
          · rename_i v hv
            split at h
            · rename_i hn
              cases h
              exact qjF fun σ hev _ => zrO hop ht ((qbD hev x hxo).trans hx) ((qbD hev ix hio).trans hi) hφ.1 hn hv
            · cases h
          · cases h
        · cases h
      · cases h
    · cases h
  | .ia n, i, φs, h, hφ => by
    simp only [infO] at h
    split at h
    · rename_i t x ix hop
      have hxo : x ∈ o.op.operands.toList := by rw [hop]; simp [Op.operands]
      have hio : ix ∈ o.op.operands.toList := by rw [hop]; simp [Op.operands]
      split at h
      · rename_i j q k m n' sz hx hi hs
        split at h
        · rename_i hc
          cases h
          obtain ⟨rfl, _⟩ := hφ
          refine qjF fun σ hev hb => ?_
          have hj := qpH hb hxo (j := j) (by rw [hx]; simp [V.keys, C.keys])
          have := zqE (cx := cx) (st := σ) hop hs ((qbD hev x hxo).trans hx) (by rw [hj]; exact hc.2) ((qbD hev ix hio).trans hi) (by omega) (by omega)
          simpa using this
        · cases h
      · rename_i el q k m n' sz hx hi hs
        split at h
        · rename_i hc
          cases h
          obtain ⟨rfl, _⟩ := hφ
          refine qjF fun σ hev hb => ?_
          have := znR (cx := cx) (st := σ) hop hs ((qbD hev x hxo).trans hx) ((qbD hev ix hio).trans hi) (by omega) (by omega)
          simpa using this
        · cases h
      · rename_i j r q k m n' sz hx hi hs
        split at h
        · rename_i hj
          split at h
          · rename_i hc
            cases h
            obtain ⟨rfl, _⟩ := hφ
            refine qjF fun σ hev hb => ?_
            have hj' := qpH hb hxo (j := j) (by rw [hx]; simp [V.keys, C.keys])
            have := znQ (cx := cx) (st := σ) hop hs ((qbD hev x hxo).trans hx) (hj'.trans hj) ((qbD hev ix hio).trans hi) (by omega) (by omega)
            simpa using this
          · cases h
        · cases h
      · cases h
    · cases h
  | .lit0, i, φs, h, _ => by
    simp only [infO] at h
    split at h
    · rename_i t parts hop
      split at h
      · rename_i x hi
        split at h
        · rename_i e; subst e
          cases h
          obtain ⟨e, sz, by', z⟩ := x
          intro σ _ _ _
          rw [zjT]
          exact zyK hop hi
        · cases h
      · cases h
    · cases h
end
open Go.RowKit (Below)
def PostN (I : Nat → Nat → Prop) (w : World) (e sz : Nat) (r : Option (List (List T))) (en : Ending) (w' : World) : Prop :=
  Below w.heap.size w w' ∧ ∃ I' : Nat → Nat → Prop, (∀ b o, I b o → I' b o) ∧ (∀ b o, I' b o → I b o ∨ w.heap.size ≤ b) ∧ (∀ b o, I' b o → b < w'.heap.size) ∧
      match r with
      | none => ∃ ad, en = .returned (.slice ad 0 0)
      | some es => ∃ b cap c, en = .returned (.slice (some ⟨b, 0, none⟩) es.length cap) ∧ w.heap.size ≤ b ∧ (∀ o, ¬ I' b o) ∧ 0 < sz ∧ es.length ≤ cap ∧ cap ≤ maxLen ∧ (∀ x ∈ es, x.length = sz) ∧
          w'.heap[b]? = some (.cells c e (0, 0)) ∧ c.size = cap * sz ∧ ∀ i k x t, es[i]? = some x → x[k]? = some t → ∃ v, c[i * sz + k]? = some v ∧ Rep w' I' v t
def zpE (P : Program) (f : FuncId) (args : List TV) (e sz : Nat) (r : Option (List (List T))) : Prop :=
  ∀ (I : Nat → Nat → Prop) (w : World) (vs : List Value), (∀ b o, I b o → b < w.heap.size) → TVRs w I vs args → Calls P f vs.toArray w (PostN I w e sz r)
def zuI (P : Program) (f : FuncId) (e sz : Nat) (r : Option (List (List T))) (en : Exit) (s : St) : Prop :=
  (en = .ret ∨ en = .normal) ∧ match r with
    | none => endV P f s = some (.c .nil)
    | some es => ∃ j es0, endV P f s = some (.c (.row j 0 es.length)) ∧ s.hp.lookup j = some (.row e sz es0 0) ∧ es0.take es.length = es
section
variable {P : Program} {cx : Cx} {o : Oper} {st : St} {L : Loc} {I : Nat → Nat → Prop} {a : Act} {w : World}
theorem ztR {f : FuncId} {n e sz : Nat} {args : List TV} {r : Option (List (List T))} (hok : okFn P f n = true) (hl : args.length ≤ n)
    (h : ∀ cx : Cx, cx.n = n → cx.rd = none → AW P cx (qm5 P f) (St.init args) (zuI P f e sz r)) : zpE P f args e sz r := by
  unfold okFn at hok
  split at hok
  · rename_i fn hfn
    simp only [Bool.and_eq_true, beq_iff_eq] at hok
    obtain ⟨c, hc⟩ := Option.isSome_iff_exists.1 hok.1
    have hbody : qm5 P f = c := by unfold qm5; rw [hfn]; show fn.body.getD .skip = c; rw [hc]; rfl
    rw [hbody] at h
    have hn := hok.2
    intro I w vs hI hvs
    refine callsIn_wide.1 (callsIn_of_wp_marks (n := 2) hfn hc trivial ?_)
    let cx : Cx := ⟨w, I, [], n, none, []⟩
    have hlen : vs.length = args.length := by have := VRs.length hvs; simpa using this
    have hsim : Sim cx (St.init args) { tmps := vs.toArray ++ Array.replicate (fn.ntmps - vs.toArray.size) undef, defers := [] } w := by
      refine ⟨L0, I, ?_⟩
      exact {
        below := Below.refl _ _
        i0 := fun _ _ h => h
        i1 := fun _ _ h => .inl h
        ib := hI
        inj := fun j j' b b' h => by simp [St.init] at h
        hp := fun j b h => by simp [St.init] at h
        tm := fun t v ht => by
          obtain ⟨_, x, h1, rfl⟩ := qxX args 0 t v ht
          simp only [Nat.sub_zero] at h1
          have hx : (args.map TV.toV)[t]? = some x.toV := by simp [h1]
          obtain ⟨u, g1, g2⟩ := VRs.get hvs hx
          have htl : t < vs.length := (List.getElem?_eq_some_iff.1 g1).1
          refine ⟨?_, by show t < n; omega⟩
          have : (vs.toArray ++ Array.replicate (fn.ntmps - vs.toArray.size) undef).getD t undef = u := by
            have e1 : (vs.toArray ++ Array.replicate (fn.ntmps - vs.toArray.size) undef)[t]? = some u := by
              rw [Array.getElem?_append_left (by simpa using htl)]; simpa using g1
            simp only [Array.getD_eq_getD_getElem?, e1, Option.getD_some]
          rw [this]
          exact VR.reT g2
        ex := trivial
        defers := rfl
        kp := ⟨List.nodup_nil, fun _ h => by cases h⟩
        mks := ⟨List.nodup_nil, fun _ h => by cases h⟩
        size := by simp [hn]; show _ = n; omega }
    refine wpIn_mono (h cx rfl rfl _ w hsim) ?_
    intro en a' w' ⟨s, hq, L, I', hs⟩
    obtain ⟨he, hq⟩ := hq
    have fin : LeavesInM Fence.wide 2 P fn a'.tmps (fun e' w' => PostN I w e sz r e' w') a'.defers .returning w' := by
      refine qzC L.ds L a' w' hs rfl fun L w' hs _ _ _ => ?_
      have run : ∀ {x : V}, endV P f s = some x → ∃ v, (results fn a'.tmps).run P w' = .ok v w' ∧ VR w' L s.hp I' v x := by
        intro x hend
        unfold endV at hend
        rw [hfn] at hend
        simp only at hend
        split at hend
        · rename_i rr hr
          obtain ⟨v, g1, g2⟩ := zqY (P := P) hs hend
          refine ⟨v, ?_, g2⟩
          have hm : (fn.results.mapM (q0O { a' with defers := [] })).run P w' = .ok #[v] w' := by
            rw [Array.mapM_eq_mapM_toList, hr]
            simp only [List.mapM_cons, List.mapM_nil, Sem.run_map, Sem.run_bind, g1, Result.andThen_ok]
            rfl
          have he : results fn a'.tmps = (fn.results.mapM (q0O { a' with defers := [] })) >>= fun vs => pure (if h : vs.size = 1 then vs[0] else .tuple vs) := by
            unfold results
            congr 1
          rw [he, Sem.run_bind, hm]
          rfl
        · rename_i hr
          cases hend
          have hre : fn.results = #[] := by rw [← Array.toArray_toList (xs := fn.results), hr]
          exact ⟨.tuple #[], results_none hre _ _ _, #[], rfl, trivial⟩
        · cases hend
      cases r with
      | none =>
        obtain ⟨v, g1, g2⟩ := run hq
        obtain ⟨ad, hv⟩ := g2
        exact ⟨v, g1, hs.below, I', hs.i0, hs.i1, hs.ib, ad, by rw [hv]⟩
      | some es =>
        obtain ⟨j, es0, hend, hj, htk⟩ := hq
        obtain ⟨v, g1, g2⟩ := run hend
        obtain ⟨q1, q2⟩ := g2 e sz es0 0 hj
        obtain ⟨hB, hsz0, hcap, hmx, hes, hIf, arr, hg, hsz, hcs⟩ := hs.hp j _ hj
        refine ⟨v, g1, hs.below, I', hs.i0, hs.i1, hs.ib, L.m j, L.cp j, arr, ?_, hB, ?_, hsz0, by omega, hmx, ?_, hg, hsz, ?_⟩
        · rw [q2]; simp
        · intro o ho
          have := hIf o ho
          omega
        · intro x hx
          rw [← htk] at hx
          exact hes x (List.mem_of_mem_take hx)
        · intro i k x t hx ht
          rw [← htk, List.getElem?_take] at hx
          split at hx
          · exact hcs i k x t hx ht
          · cases hx
    rcases he with rfl | rfl
    · exact fin
    · exact fin
  · cases hok
theorem SimD.adopt {j b0 cap : Nat} {blk : Blk} (h : SimD cx L I st a w) (hf : st.free j = true) (hfresh : ∀ j' b', st.hp.lookup j' = some b' → L.m j' ≠ b0)
    (hb : BR w (L.set j b0 cap) ((j, blk) :: st.hp) I cx.w0.heap.size j blk) : SimD cx (L.set j b0 cap) I (st.addB j blk) a w := by
  have k : Keep (some j) w w L (L.set j b0 cap) st.hp ((j, blk) :: st.hp) I I := by
    refine ⟨fun _ _ h => h, fun _ _ _ => rfl, fun j' hne hs => ?_, fun j' e sz es fz hne hl => ?_⟩
    · have : j' ≠ j := fun e => by subst e; simp at hne
      rw [qcV, if_neg this] at hs
      exact ⟨hs, by simp [Loc.set, this]⟩
    · have : j' ≠ j := fun e => by subst e; simp at hne
      rw [qcV, if_neg this] at hl
      exact ⟨es, fz, hl, Nat.le_refl _, by simp [Loc.set, this]⟩
  refine h.step k (fun j' e => by cases e; exact hf) (Below.refl _ _) h.i1 h.ib ?_ ?_ (fun _ _ hD _ => hD) rfl
  · intro j1 j2 b1 b2 h1 h2 he
    rw [qcV] at h1 h2
    split at h1 <;> split at h2
    · rename_i e1 e2; rw [e1, e2]
    · rename_i e1 e2
      have := hfresh j2 b2 h2
      simp [Loc.set, e1, e2] at he
      exact absurd he.symm this
    · rename_i e1 e2
      have := hfresh j1 b1 h1
      simp [Loc.set, e1, e2] at he
      exact absurd he this
    · rename_i e1 e2
      simp [Loc.set, e1, e2] at he
      exact h.inj j1 j2 b1 b2 h1 h2 he
  · intro j' b' hl
    rw [qcV] at hl
    split at hl
    · rename_i e; subst e; cases hl; exact hb
    · rename_i e
      exact BR.keep k (h.hp j' b' hl) (St.free_hp hf hl e) rfl (by simp [Loc.set, e]) (by simp [Loc.set, e]) (fun o ho => ho)
def zxN (st : St) (d e sz : Nat) : Option (List (List T)) → St
  | none => st.put d (.c .nil)
  | some es => (st.addB d (.row e sz es 0)).put d (.c (.row d 0 es.length))
theorem zvB {x : Operand} {args : List Operand} {tys : Array TypeId} {f : FuncId} {d e sz : Nat} {hss : List (List Nat)} {ys : List TV} {r : Option (List (List T))} (ho : o.op = .call { callee := .value x, args := args.toArray, argTypes := tys }) (hd' : o.dst = some d)
    (hx : st.ev x = .c (.t (.fn f))) (hc : qjV P f = true) (hargs : zdE st hss args = some ys) (hf : st.free d = true) (hh : zpE P f ys e sz r) :
    OpOK P cx o st (zxN st d e sz r) := by
  intro hd a w hsim K Q hK
  obtain ⟨L, I, h⟩ := hsim
  have hfn : a.eval x = .func (.func f) #[] #[] := by
    have := h.ev x
    rw [hx] at this
    exact Rep.fn_inv this
  have hrun := qtY (P := P) (w := w) ho hfn hc
  have hcalls := hh I w (args.map a.eval) h.ib (VRs.reT (znP h hargs))
  unfold Oper.wp
  rw [hrun, Oper.upon_enter]
  refine Calls.mono hcalls fun en w' he => ?_
  obtain ⟨hb, I', h1, h2, h3, hres⟩ := he
  have h' := h.after hb h1 h2 h3
  cases r with
  | none =>
    obtain ⟨ad, rfl⟩ := hres
    have := ql9 (o := o) (v := .c .nil) h' ⟨ad, rfl⟩ hd
    rw [hd'] at this
    refine hK _ _ ?_
    rw [hd']
    exact this
  | some es =>
    obtain ⟨b, cap, c, rfl, hlow, hnI, hsz0, hle, hmx, hes, hg, hsz, hcs⟩ := hres
    have h4 : SimD cx (L.set d b cap) I' (st.addB d (.row e sz es 0)) a w' := by
      refine h'.adopt hf (fun j' b' hl => by have := (h.hp j' b' hl).lt.2; omega) ?_
      refine ⟨by simpa [Loc.set] using Nat.le_trans h.below.size hlow, hsz0, by simpa [Loc.set] using hle, by simpa [Loc.set] using hmx, hes, ?_, c, by simpa [Loc.set] using hg, by simpa [Loc.set] using hsz, hcs⟩
      intro o ho
      simp only [Loc.set, if_true] at ho
      exact absurd ho (hnI o)
    have := ql9 (o := o) (v := .c (.row d 0 es.length)) (val := .slice (some ⟨b, 0, none⟩) es.length cap) h4 (by
      intro e' sz' es' fz' hl
      have hl' : (st.addB d (.row e sz es 0)).hp.lookup d = some (.row e' sz' es' fz') := hl
      rw [St.addB_lookup, if_pos rfl] at hl'
      cases hl'
      exact ⟨by omega, by simp [Loc.set]⟩) hd
    rw [hd'] at this
    refine hK _ _ ?_
    rw [hd']
    exact this
def PostC (I : Nat → Nat → Prop) (w : World) (g : FuncId) (cs : List T) (en : Ending) (w' : World) : Prop :=
  Below w.heap.size w w' ∧ ∃ I' : Nat → Nat → Prop, (∀ b o, I b o → I' b o) ∧ (∀ b o, I' b o → I b o ∨ w.heap.size ≤ b) ∧ (∀ b o, I' b o → b < w'.heap.size) ∧
    ∃ b c ty, en = .returned (.func (.func g) #[] #[.pointer (some ⟨b, 0, none⟩)]) ∧ w.heap.size ≤ b ∧ (∀ o, ¬ I' b o) ∧ w'.heap[b]? = some (.cells c ty (0, 0)) ∧ CRs w' L0 [] I' c.toList (cs.map .t)
def zpF (P : Program) (f : FuncId) (args : List TV) (g : FuncId) (cs : List T) : Prop :=
  ∀ (I : Nat → Nat → Prop) (w : World) (vs : List Value), (∀ b o, I b o → b < w.heap.size) → TVRs w I vs args → Calls P f vs.toArray w (PostC I w g cs)
def zwD (P : Program) (f : FuncId) (g : FuncId) (cs : List T) (en : Exit) (s : St) : Prop :=
  (en = .ret ∨ en = .normal) ∧ ∃ j, endV P f s = some (.c (.fn g [.ptr j 0])) ∧ s.hp.lookup j = some (.var (cs.map .t))
theorem ztT {f g : FuncId} {n : Nat} {args : List TV} {cs : List T} (hok : okFn P f n = true) (hl : args.length ≤ n)
    (h : ∀ cx : Cx, cx.n = n → cx.rd = none → AW P cx (qm5 P f) (St.init args) (zwD P f g cs)) : zpF P f args g cs := by
  unfold okFn at hok
  split at hok
  · rename_i fn hfn
    simp only [Bool.and_eq_true, beq_iff_eq] at hok
    obtain ⟨c, hc⟩ := Option.isSome_iff_exists.1 hok.1
    have hbody : qm5 P f = c := by unfold qm5; rw [hfn]; show fn.body.getD .skip = c; rw [hc]; rfl
    rw [hbody] at h
    have hn := hok.2
    intro I w vs hI hvs
    refine callsIn_wide.1 (callsIn_of_wp_marks (n := 2) hfn hc trivial ?_)
    let cx : Cx := ⟨w, I, [], n, none, []⟩
    have hlen : vs.length = args.length := by have := VRs.length hvs; simpa using this
    have hsim : Sim cx (St.init args) { tmps := vs.toArray ++ Array.replicate (fn.ntmps - vs.toArray.size) undef, defers := [] } w := by
      refine ⟨L0, I, ?_⟩
      exact {
        below := Below.refl _ _
        i0 := fun _ _ h => h
        i1 := fun _ _ h => .inl h
        ib := hI
        inj := fun j j' b b' h => by simp [St.init] at h
        hp := fun j b h => by simp [St.init] at h
        tm := fun t v ht => by
          obtain ⟨_, x, h1, rfl⟩ := qxX args 0 t v ht
          simp only [Nat.sub_zero] at h1
          have hx : (args.map TV.toV)[t]? = some x.toV := by simp [h1]
          obtain ⟨u, g1, g2⟩ := VRs.get hvs hx
          have htl : t < vs.length := (List.getElem?_eq_some_iff.1 g1).1
          refine ⟨?_, by show t < n; omega⟩
          have : (vs.toArray ++ Array.replicate (fn.ntmps - vs.toArray.size) undef).getD t undef = u := by
            have e1 : (vs.toArray ++ Array.replicate (fn.ntmps - vs.toArray.size) undef)[t]? = some u := by
              rw [Array.getElem?_append_left (by simpa using htl)]; simpa using g1
            simp only [Array.getD_eq_getD_getElem?, e1, Option.getD_some]
          rw [this]
          exact VR.reT g2
        ex := trivial
        defers := rfl
        kp := ⟨List.nodup_nil, fun _ h => by cases h⟩
        mks := ⟨List.nodup_nil, fun _ h => by cases h⟩
        size := by simp [hn]; show _ = n; omega }
    refine wpIn_mono (h cx rfl rfl _ w hsim) ?_
    intro en a' w' ⟨s, hq, L, I', hs⟩
    obtain ⟨he, j, hend, hj⟩ := hq
    have fin : LeavesInM Fence.wide 2 P fn a'.tmps (fun e' w' => PostC I w g cs e' w') a'.defers .returning w' := by
      refine qzC L.ds L a' w' hs rfl fun L w' hs _ _ _ => ?_
      unfold endV at hend
      rw [hfn] at hend
      simp only at hend
      split at hend
      · rename_i rr hr
        obtain ⟨v, g1, g2⟩ := zqY (P := P) hs hend
        obtain ⟨caps, hv, hcaps⟩ := g2
        obtain ⟨hB, hnI, arr, ty, hg, hcs⟩ := hs.hp j _ hj
        refine ⟨v, ?_, hs.below, I', hs.i0, hs.i1, hs.ib, L.m j, arr, ty, ?_, hB, hnI, hg, CRs.reT hcs⟩
        · have hm : (fn.results.mapM (q0O { a' with defers := [] })).run P w' = .ok #[v] w' := by
            rw [Array.mapM_eq_mapM_toList, hr]
            simp only [List.mapM_cons, List.mapM_nil, Sem.run_map, Sem.run_bind, g1, Result.andThen_ok]
            rfl
          have he : results fn a'.tmps = (fn.results.mapM (q0O { a' with defers := [] })) >>= fun vs => pure (if h : vs.size = 1 then vs[0] else .tuple vs) := by
            unfold results
            congr 1
          rw [he, Sem.run_bind, hm]
          rfl
        · rw [hv]
          have hc1 : caps.toList = [.pointer (some ⟨L.m j, 0, none⟩)] := by
            cases hcl : caps.toList with
            | nil => rw [hcl] at hcaps; exact hcaps.elim
            | cons u us =>
              rw [hcl] at hcaps
              have h2 := hcaps.2
              cases us with
              | nil =>
                have h1 : u = .pointer (some ⟨L.m j, 0, none⟩) := hcaps.1 (by rw [hj]; rfl)
                rw [h1]
              | cons => exact h2.elim
          have : caps = #[.pointer (some ⟨L.m j, 0, none⟩)] := by rw [← Array.toArray_toList (xs := caps), hc1]
          rw [this]
      · cases hend
      · cases hend
    rcases he with rfl | rfl
    · exact fin
    · exact fin
  · cases hok
theorem zvC {x : Operand} {args : List Operand} {tys : Array TypeId} {f g : FuncId} {d : Nat} {hss : List (List Nat)} {ys : List TV} {cs : List T} (ho : o.op = .call { callee := .value x, args := args.toArray, argTypes := tys }) (hd' : o.dst = some d)
    (hx : st.ev x = .c (.t (.fn f))) (hc : qjV P f = true) (hargs : zdE st hss args = some ys) (hf : st.free d = true) (hh : zpF P f ys g cs) :
    OpOK P cx o st ((st.addB d (.var (cs.map .t))).put d (.c (.fn g [.ptr d 0]))) := by
  intro hd a w hsim K Q hK
  obtain ⟨L, I, h⟩ := hsim
  have hfn : a.eval x = .func (.func f) #[] #[] := by
    have := h.ev x
    rw [hx] at this
    exact Rep.fn_inv this
  have hrun := qtY (P := P) (w := w) ho hfn hc
  have hcalls := hh I w (args.map a.eval) h.ib (VRs.reT (znP h hargs))
  unfold Oper.wp
  rw [hrun, Oper.upon_enter]
  refine Calls.mono hcalls fun en w' he => ?_
  obtain ⟨hb, I', h1, h2, h3, b, c, ty, rfl, hlow, hnI, hg, hcs⟩ := he
  have h' := h.after hb h1 h2 h3
  have h4 : SimD cx (L.set d b 0) I' (st.addB d (.var (cs.map .t))) a w' := by
    refine h'.adopt hf (fun j' b' hl => by have := (h.hp j' b' hl).lt.2; omega) ?_
    refine ⟨by simpa [Loc.set] using Nat.le_trans h.below.size hlow, fun o ho => ?_, c, ty, by simpa [Loc.set] using hg, CRs.reT hcs⟩
    simp only [Loc.set, if_true] at ho
    exact absurd ho (hnI o)
  have := ql9 (o := o) (v := .c (.fn g [.ptr d 0])) (val := .func (.func g) #[] #[.pointer (some ⟨b, 0, none⟩)]) h4 ⟨_, rfl, fun _ => by simp [Loc.set], trivial⟩ hd
  rw [hd'] at this
  refine hK _ _ ?_
  rw [hd']
  exact this
theorem zn8 {t n : Nat} (ht : zaS P t = some (n, 1)) (w : World) (b k : Nat) : (Instr.sliceAt t (.pointer (some ⟨b, k, none⟩)) none none none).run P w = .ok (.slice (some ⟨b, k, none⟩) n n) w := by
  obtain ⟨e, i, hu, hi, hsz⟩ := zmE ht
  simp only [Instr.sliceAt, Instr.sureAddr, Instr.sliceBounds, Sem.run_bind, Sem.run_pure, Result.andThen_ok, run_underlying hu, qlG hi]
  split <;> simp [Addr.add]
theorem zrM {t : TypeId} {x : Operand} {j k n : Nat} (ho : o.op = .slice t x none none none) (ht : zaS P t = some (n, 1)) (hx : st.ev x = .c (.ptr j k)) (hj : (st.hp.lookup j).isSome = true) :
    qe2 P cx o st (.c (.asl j k n)) := by
  intro L I a w h
  have hv := h.ev x
  rw [hx] at hv
  refine ⟨.slice (some ⟨L.m j, k, none⟩) n n, ?_, fun _ => rfl⟩
  simp [execOp, ho, (hv hj : a.eval x = _), zn8 ht]
def argA (hs : List Nat) (hp : List (Nat × Blk)) : V → Option TV
  | .c (.asl j k n) => match hp.lookup j with
    | some (.var cs) => match qrZ (fun _ => 0) 0 ((cs.drop k).take n) with
      | some ts => if ts.length = n then some (.c (.sl 1 (ts.map fun t => [t]))) else none
      | none => none
    | _ => none
  | v => tvH hs v
def zuF (st : St) : List (List Nat) → List Operand → Option (List TV)
  | [], [] => some []
  | hs :: hss, x :: xs => match argA hs st.hp (st.ev x), zuF st hss xs with
    | some y, some ys => some (y :: ys)
    | _, _ => none
  | _, _ => none
def IV (L : Loc) (hp : List (Nat × Blk)) (I : Nat → Nat → Prop) (w : World) : Nat → Nat → Prop := fun b o => I b o ∨ (b < w.heap.size ∧ ∃ j cs, hp.lookup j = some (.var cs) ∧ L.m j = b)
theorem argA_R (h : SimD cx L I st a w) {hs : List Nat} {v : Value} {x : V} {y : TV} (hv : VR w L st.hp I v x) (hx : argA hs st.hp x = some y) : VR w L st.hp (IV L st.hp I w) v y.toV := by
  have mono : ∀ {y : TV}, VR w L st.hp I v y.toV → VR w L st.hp (IV L st.hp I w) v y.toV := fun {y} hy => by
    have k : Keep none w w L L st.hp st.hp I (IV L st.hp I w) := ⟨fun _ _ h => .inl h, fun _ _ _ => rfl, fun j _ hs => ⟨hs, rfl⟩, fun j e sz es fz _ hl => ⟨es, fz, hl, Nat.le_refl _, rfl⟩⟩
    exact k.v (V.free_none _) hy
  unfold argA at hx
  split at hx
  · rename_i j k n
    split at hx
    · rename_i cs hj
      split at hx
      · rename_i ts ht
        split at hx
        · rename_i hlen
          cases hx
          have hvp := hv (by rw [hj]; rfl)
          obtain ⟨_, hnI, arr, ty, hg, hcs⟩ := h.hp j _ hj
          have hlt := (h.hp j _ hj).lt
          have hts := qvL ((hcs.drop k).take n) ht
          rw [hvp]
          have key : ∀ i t, ts[i]? = some t → ∃ u, w.cell? ⟨L.m j, k + i, none⟩ = some u ∧ Rep w I u t := fun i t hi => by
            have hi' : (ts.map C.t)[i]? = some (.t t) := by rw [List.getElem?_map, hi]; rfl
            obtain ⟨u, g1, _, g3⟩ := hts.get hi'
            refine ⟨u, ?_, g3⟩
            rw [qyC hg]
            rw [List.getElem?_take] at g1
            split at g1
            · simpa [List.getElem?_drop] using g1
            · cases g1
          refine .sl _ k n n 1 _ (fun i q => (w.cell? ⟨L.m j, k + i * 1 + q, none⟩).getD undef) (fun i _ => (ts[i]?).getD (.bool false)) (by simp [hlen]) (Nat.le_refl _) (by simp) ?_ ?_ ?_ ?_
          · intro i q e he hq
            rw [List.getElem?_map] at he
            cases hti : ts[i]? with
            | none => simp [hti] at he
            | some t =>
              simp [hti] at he; subst he
              have : q = 0 := by omega
              subst this; simp
          · intro i q hi hq
            exact .inr ⟨hlt.2, j, cs, hj, rfl⟩
          · intro i q hi hq
            have : q = 0 := by omega
            subst this
            obtain ⟨t, hti⟩ : ∃ t, ts[i]? = some t := ⟨_, List.getElem?_eq_getElem (by omega)⟩
            obtain ⟨u, g1, _⟩ := key i t hti
            rw [Nat.mul_one, Nat.add_zero, g1]; rfl
          · intro i q hi hq
            have : q = 0 := by omega
            subst this
            obtain ⟨t, hti⟩ : ∃ t, ts[i]? = some t := ⟨_, List.getElem?_eq_getElem (by omega)⟩
            obtain ⟨u, g1, g2⟩ := key i t hti
            rw [Nat.mul_one, Nat.add_zero, g1, hti]
            exact g2.mono (fun _ _ h => .inl h) (fun _ _ _ => rfl)
        · cases hx
      · cases hx
    · cases hx
  · exact mono (tvH_R hv hx)
theorem zuE (h : SimD cx L I st a w) : ∀ {hss : List (List Nat)} {xs : List Operand} {ys : List TV}, zuF st hss xs = some ys → VRs w L st.hp (IV L st.hp I w) (xs.map a.eval) (ys.map TV.toV)
  | [], [], ys, hy => by cases hy; trivial
  | hs :: hss, x :: xs, ys, hy => by
    simp only [zuF] at hy
    split at hy
    · rename_i y ys' h1 h2
      cases hy
      exact ⟨argA_R h (h.ev x) h1, zuE h h2⟩
    · cases hy
  | [], _ :: _, _, hy => by cases hy
  | _ :: _, [], _, hy => by cases hy
def TV.flat : TV → Bool
  | .c (.bool _) => true
  | .c (.int _ _) => true
  | _ => false
theorem TV.flat_R {L L' : Loc} {H H' : List (Nat × Blk)} {I I' : Nat → Nat → Prop} {w w' : World} {v : Value} {x : TV} (hx : x.flat = true) (h : VR w L H I v x.toV) : VR w' L' H' I' v x.toV := by
  unfold TV.flat at hx
  split at hx
  · have := Rep.bool_inv h; subst this; exact .bool _
  · have := Rep.int_inv h; subst this; exact .int _ _
  · cases hx
theorem zvD {x : Operand} {args : List Operand} {tys : Array TypeId} {f : FuncId} {hss : List (List Nat)} {ys : List TV} {res : TV} (ho : o.op = .call { callee := .value x, args := args.toArray, argTypes := tys })
    (hx : st.ev x = .c (.t (.fn f))) (hc : qjV P f = true) (hargs : zuF st hss args = some ys) (hfl : res.flat = true) (hh : qc7 P f ys res) : OpOK P cx o st (st.put? o.dst res.toV) := by
  intro hd a w hsim K Q hK
  obtain ⟨L, I, h⟩ := hsim
  have hf : a.eval x = .func (.func f) #[] #[] := by
    have := h.ev x
    rw [hx] at this
    exact Rep.fn_inv this
  have hrun := qtY (P := P) (w := w) ho hf hc
  have hcalls := hh (IV L st.hp I w) w (args.map a.eval) (fun b o hb => by rcases hb with hb | hb; exact h.ib b o hb; exact hb.1) (VRs.reT (zuE h hargs))
  unfold Oper.wp
  rw [hrun, Oper.upon_enter]
  refine Calls.mono hcalls fun e w' he => ?_
  obtain ⟨v, rfl, hb, I', _, _, _, hv⟩ := he
  have h' := h.after hb (fun _ _ h => h) (fun _ _ h => .inl h) (fun b o hbo => Nat.lt_of_lt_of_le (h.ib b o hbo) hb.size)
  exact hK _ _ (ql9 h' (TV.flat_R hfl hv) hd)
end
open Go.RowKit (Below)
def infG (P : Program) (ops : Array Oper) (st : St) (o : Oper) : H → Option (Inf × List Prop)
  | .ga b h => match o.guard with
    | some (g, b0) => match (ops[g]?).bind (·.dst) with
      | some t => match st.tm.lookup t with
        | some (.c (.t (.bool b'))) => if b = b0 then (infO P st o h).map fun r => (r.1, (b' = b) :: r.2) else some (⟨[], [], ⟨o.dst.map fun d => (d, .tup []), none⟩⟩, [b' = b])
        | _ => none
      | none => none
    | none => none
  | h => match o.guard with
    | none => infO P st o h
    | some (g, b0) => match (ops[g]?).bind (·.dst) with
      | some t => match st.tm.lookup t with
        | some (.c (.t (.bool b'))) => if b' = b0 then infO P st o h else some (⟨[], [], ⟨o.dst.map fun d => (d, .tup []), none⟩⟩, [])
        | some (.tup []) => some (⟨[], [], ⟨o.dst.map fun d => (d, .tup []), none⟩⟩, [])
        | _ => none
      | none => none
inductive I where
  | op (h : H)
  | appR (es2 es : List (List T))
  | appT (es : List (List T))
  | snap (t fz : Nat) (es : List (List T))
  | snapC (jb k fz : Nat) (es : List (List T))
  | nilT (t sz : Nat)
  | sb (t : Nat) (b : Bool)
  | si (t : Nat) (n : Int)
  | rl (t off len : Nat)
  | tellA (t : Nat) (hs : List Nat)
  | tellB (j : Nat) (hs : List Nat)
  | callR (js : List Nat) (F' : List (Nat × Blk)) (res : V)
  | callN (hss : List (List Nat)) (e sz : Nat) (r : Option (List (List T)))
  | callC (hss : List (List Nat)) (g : FuncId) (cs : List T)
  | sliA
  | callA (hss : List (List Nat)) (res : TV)
  | nrm (n : Nat)
  | keepT (ts : List Nat)
  | rlB (jb k off len : Nat)
  | keep (ts js : List Nat)
def zyH (hp : List (Nat × Blk)) (js : List Nat) : List (Nat × Blk) := js.filterMap fun j => (hp.lookup j).map fun b => (j, b)
theorem zh1 (hp : List (Nat × Blk)) : ∀ js : List Nat, ztV hp (zyH hp js)
  | [], _ => rfl
  | j :: js, k => by
    have ih := zh1 hp js k
    unfold zyH at ih ⊢
    cases hl : hp.lookup j with
    | none => simpa [hl] using ih
    | some b =>
      simp only [List.filterMap_cons, hl, Option.map_some, List.cons_append]
      rw [qcV]
      split
      · rename_i e; subst e; exact hl.symm
      · exact ih
def zvW (j : Nat) : Nat → List (Nat × Blk) → Option (List (Nat × Blk))
  | 0, r => some r
  | n + 1, (k, _) :: r => if k = j then zvW j n r else none
  | _ + 1, [] => none
theorem zc4 {j : Nat} {b : Blk} : ∀ {n : Nat} {r r' : List (Nat × Blk)}, zvW j n r = some r' → ∀ k, ((j, b) :: r').lookup k = ((j, b) :: r).lookup k
  | 0, r, r', h, k => by cases h; rfl
  | n + 1, (q, c) :: r, r', h, k => by
    simp only [zvW] at h
    split at h
    · rename_i e; subst e
      rw [zc4 h k]
      simp only [qcV]
      split <;> rfl
    · cases h
  | n + 1, [], r', h, k => by cases h
def andC (r : Option (St × List Prop)) (ps : List Prop) : Option (St × List Prop) := r.map fun q => (q.1, ps ++ q.2)
def seqX (P : Program) (ops : Array Oper) : List I → List Oper → St → Option (St × List Prop)
  | [], [], st => some (st, [])
  | [], _ :: _, _ => none
  | .op h :: is, o :: l, st => match infG P ops st o h with
    | some (i, φ) => if i.fresh.all (fun j => st.free j) then andC (seqX P ops is l (i.u.app st)) φ else none
    | none => none
  | .op _ :: _, [], _ => none
  | .appR es2 es' :: is, o :: l, st => match o.guard, o.op, o.dst with
    | none, .call { callee := .builtin .append, args, argTypes }, some d => match args.toList, argTypes.toList with
      | [s, x], [t, t'] => match st.ev s, qi8 P t with
        | .c (.row j 0 len), some (e, sz, by', _) => match st.hp.lookup j, q3E st.hp sz (st.ev x) with
          | some (.row e' sz' es 0), some new => if t = t' ∧ 0 < sz ∧ e = e' ∧ sz = sz' then
              andC (seqX P ops is l (((st.scrub j).addB j (.row e sz es' 0)).put d (.c (.row j 0 es'.length)))) [len = es.length, new = es2, es ++ es2 = es', es'.length * by' ≤ 140737488355328, es'.length ≤ maxLen] else none
          | _, _ => none
        | _, _ => none
      | _, _ => none
    | _, _, _ => none
  | .appR _ _ :: _, [], _ => none
  | .appT es' :: is, o :: l, st => match o.guard, o.op, o.dst with
    | none, .call { callee := .builtin .append, args, argTypes }, some d => match args.toList, argTypes.toList with
      | [s, x], [t, t'] => match st.ev s, qi8 P t with
        | .c .nil, some (_, sz, by', _) => match q3E st.hp sz (st.ev x), st.hp.lookup d with
          | some new, none => if t = t' ∧ 0 < sz ∧ st.free d then
              andC (seqX P ops is l (st.put d (.c (.t (.sl sz es'))))) [new = es', es'.length * by' ≤ 140737488355328, es'.length ≤ maxLen] else none
          | _, _ => none
        | _, _ => none
      | _, _ => none
    | _, _, _ => none
  | .appT _ :: _, [], _ => none
  | .snap t fz' es' :: is, l, st => match st.tm.lookup t with
    | some (.c (.row j off len)) => match st.hp.lookup j with
      | some (.row e sz es fz) => andC (seqX P ops is l ((st.addB j (.row e sz es fz')).put t (.c (.t (.sl sz es'))))) [(es.drop off).take len = es', max fz (off + len) = fz']
      | _ => none
    | some (.c (.clip j off len)) => match st.hp.lookup j with
      | some (.row e sz es fz) => andC (seqX P ops is l ((st.addB j (.row e sz es fz')).put t (.c (.t (.sl sz es'))))) [(es.drop off).take len = es', max fz (off + len) = fz']
      | _ => none
    | _ => none
  | .snapC jb k fz' es' :: is, l, st => match st.hp.lookup jb with
    | some (.var cs) => match cs[k]? with
      | some (.row j off len) => match st.hp.lookup j with
        | some (.row e sz es fz) => andC (seqX P ops is l ((st.addB j (.row e sz es fz')).addB jb (.var (cs.set k (.t (.sl sz es')))))) [(es.drop off).take len = es', max fz (off + len) = fz']
        | _ => none
      | _ => none
    | _ => none
  | .nilT t sz :: is, l, st => match st.tm.lookup t with
    | some (.c .nil) => seqX P ops is l (st.put t (.c (.t (.sl sz []))))
    | _ => none
  | .sb t b :: is, l, st => match st.tm.lookup t with
    | some (.c (.t (.bool b'))) => andC (seqX P ops is l (st.put t (zjQ b))) [b' = b]
    | _ => none
  | .si t n :: is, l, st => match st.tm.lookup t with
    | some (.c (.t (.int k n'))) => andC (seqX P ops is l (st.put t (intV k n))) [n' = n]
    | _ => none
  | .rl t off' len' :: is, l, st => match st.tm.lookup t with
    | some (.c (.row j off len)) => andC (seqX P ops is l (st.put t (.c (.row j off' len')))) [off = off', len = len']
    | _ => none
  | .tellA t hs :: is, l, st => match st.tm.lookup t with
    | some (.agg cs) => match qrZ (fun k => hs.getD k 0) 0 cs with
      | some ts => seqX P ops is l (st.put t (.agg (ts.map .t)))
      | none => none
    | _ => none
  | .tellB j hs :: is, l, st => match st.hp.lookup j with
    | some (.var cs) => match qrZ (fun k => hs.getD k 0) 0 cs with
      | some ts => seqX P ops is l (st.addB j (.var (ts.map .t)))
      | none => none
    | _ => none
  | .callR js F' res :: is, o :: l, st => match o.guard, o.op with
    | none, .call { callee := .value x, args, argTypes := _ } => match fnOf (st.ev x) with
      | some (f, caps) => if qjV P f then andC (seqX P ops is l (({ st with hp := F' ++ st.hp } : St).put? o.dst res)) [qk6 P f (args.toList.map st.ev ++ caps.map capV) (zyH st.hp js) F' res] else none
      | none => none
    | _, _ => none
  | .callR _ _ _ :: _, [], _ => none
  | .callN hss e sz r :: is, o :: l, st => match o.guard, o.op, o.dst with
    | none, .call { callee := .value x, args, argTypes := _ }, some d => match st.ev x, zdE st hss args.toList with
      | .c (.t (.fn f)), some ys => if qjV P f ∧ st.free d then
          andC (seqX P ops is l (zxN st d e sz r)) [zpE P f ys e sz r] else none
      | _, _ => none
    | _, _, _ => none
  | .callN _ _ _ _ :: _, [], _ => none
  | .callC hss g cs :: is, o :: l, st => match o.guard, o.op, o.dst with
    | none, .call { callee := .value x, args, argTypes := _ }, some d => match st.ev x, zdE st hss args.toList with
      | .c (.t (.fn f)), some ys => if qjV P f ∧ st.free d then
          andC (seqX P ops is l ((st.addB d (.var (cs.map .t))).put d (.c (.fn g [.ptr d 0])))) [zpF P f ys g cs] else none
      | _, _ => none
    | _, _, _ => none
  | .callC _ _ _ :: _, [], _ => none
  | .sliA :: is, o :: l, st => match o.guard, o.op with
    | none, .slice t x none none none => match st.ev x, zaS P t with
      | .c (.ptr j k), some (n, 1) => if (st.hp.lookup j).isSome then seqX P ops is l (st.put? o.dst (.c (.asl j k n))) else none
      | _, _ => none
    | _, _ => none
  | .sliA :: _, [], _ => none
  | .callA hss res :: is, o :: l, st => match o.guard, o.op with
    | none, .call { callee := .value x, args, argTypes := _ } => match st.ev x, zuF st hss args.toList with
      | .c (.t (.fn f)), some ys => if qjV P f ∧ res.flat = true then andC (seqX P ops is l (st.put? o.dst res.toV)) [qc7 P f ys res] else none
      | _, _ => none
    | _, _ => none
  | .callA _ _ :: _, [], _ => none
  | .nrm n :: is, l, st => match st.hp with
    | (j, b) :: r => match zvW j n r with
      | some r' => seqX P ops is l { st with hp := (j, b) :: r' }
      | none => none
    | [] => none
  | .keepT ts :: is, l, st => seqX P ops is l { st with tm := ts.filterMap fun t => (st.tm.lookup t).map fun v => (t, v) }
  | .rlB jb k off' len' :: is, l, st => match st.hp.lookup jb with
    | some (.var cs) => match cs[k]? with
      | some (.row j off len) => andC (seqX P ops is l (st.addB jb (.var (cs.set k (.row j off' len'))))) [off = off', len = len']
      | _ => none
    | _ => none
  | .keep ts js :: is, l, st => seqX P ops is l (st.keep ts js)
def zpN (P : Program) (ops : Array Oper) : List H → List Oper → St → Option (List Inf × List Oper × St × List Prop)
  | [], l, st => some ([], l, st, [])
  | h :: hs, o :: l, st => match infG P ops st o h with
    | some (i, φ) => match zpN P ops hs l (i.u.app st) with
      | some (is, l', st', ψ) => some (i :: is, l', st', φ ++ ψ)
      | none => none
    | none => none
  | _ :: _, [], _ => none
section
variable {P : Program} {cx : Cx} {o : Oper} {st st' : St} {ops : Array Oper} {l : List Oper} {R : St → Prop}
theorem ztN {h : H} {i : Inf} {φs : List Prop} (hx : infG P ops st o h = some (i, φs)) (hφ : AllP φs) : EffG P cx ops o st i.rk i.fresh i.u := by
  have plain : (match o.guard with
    | none => infO P st o h
    | some (g, b0) => match (ops[g]?).bind (·.dst) with
      | some t => match st.tm.lookup t with
        | some (.c (.t (.bool b'))) => if b' = b0 then infO P st o h else some (⟨[], [], ⟨o.dst.map fun d => (d, .tup []), none⟩⟩, [])
        | some (.tup []) => some (⟨[], [], ⟨o.dst.map fun d => (d, .tup []), none⟩⟩, [])
        | _ => none
      | none => none) = some (i, φs) → EffG P cx ops o st i.rk i.fresh i.u := by
    intro hx
    unfold EffG
    cases hg : o.guard with
    | none => rw [hg] at hx; exact zp2 hx hφ
    | some p =>
      obtain ⟨g, b0⟩ := p
      rw [hg] at hx
      simp only at hx ⊢
      split at hx
      · rename_i t ht
        split at hx
        · rename_i b' hl
          split at hx
          · rename_i e
            exact ⟨t, _, some b', ht, hl, rfl, by rw [if_pos (by rw [e])]; exact zp2 hx hφ⟩
          · rename_i e
            cases hx
            exact ⟨t, _, some b', ht, hl, rfl, by rw [if_neg (by simpa using e)]⟩
        · rename_i hl
          cases hx
          exact ⟨t, _, none, ht, hl, rfl, by rw [if_neg (by simp)]⟩
        · cases hx
      · cases hx
  cases h with
  | ga b h =>
    simp only [infG] at hx
    unfold EffG
    split at hx
    · rename_i g b0 hg
      rw [hg]
      simp only
      split at hx
      · rename_i t ht
        split at hx
        · rename_i b' hl
          split at hx
          · rename_i e
            obtain ⟨r, h1, h2⟩ := Option.map_eq_some_iff.1 hx
            cases h2
            obtain ⟨h3, h4⟩ := hφ
            exact ⟨t, _, some b', ht, hl, rfl, by rw [if_pos (by rw [h3.trans e])]; exact zp2 h1 h4⟩
          · rename_i e
            cases hx
            exact ⟨t, _, some b', ht, hl, rfl, by rw [if_neg (by rw [hφ.1]; simpa using e)]⟩
        · cases hx
      · cases hx
    · cases hx
  | _ => exact plain hx
theorem q4B (st : St) : ∀ xs : List Operand, q72 st st xs
  | [] => trivial
  | _ :: xs => ⟨rfl, q4B st xs⟩
theorem q71 (st : St) : ∀ xs : List Nat, zd1 st st xs
  | [] => trivial
  | _ :: xs => ⟨rfl, q71 st xs⟩
theorem zyE {rk fresh : List Nat} {u : Upd} (h : EffG P cx ops o st rk fresh u) (hf : ∀ j ∈ fresh, st.free j = true) (hr : qm6 P cx ops l (u.app st) R) : qm6 P cx ops (o :: l) st R := by
  unfold EffG at h
  split at h
  · rename_i hg
    exact q2N hg (h st (q4B st _) (q71 st _) hf) hr
  · rename_i g b hg
    obtain ⟨t, v, yb, ht, hl, hyv, hif⟩ := h
    split at hif
    · rename_i e; subst e
      have hgb : zdU ops st g = some b := by
        unfold zdU
        rw [ht]
        simp only
        rw [hl]
        unfold yV at hyv
        split at hyv
        · cases hyv; rfl
        · cases hyv
        · cases hyv
      exact zs1 hg hgb (hif st (q4B st _) (q71 st _) hf) hr
    · rename_i e
      subst hif
      rw [zjT] at hr
      exact zu4 hg ht hl hyv e hr
theorem qgQ {r : Option (St × List Prop)} {ps φ : List Prop} {s : St} (h : andC r ps = some (s, φ)) : ∃ ψ, r = some (s, ψ) ∧ φ = ps ++ ψ := by
  obtain ⟨q, h1, h2⟩ := Option.map_eq_some_iff.1 h
  cases h2
  exact ⟨_, h1, rfl⟩
theorem Sim.retellEq {t : Nat} {v v' : V} {a : Act} {w : World} (h : Sim cx st a w) (hl : st.tm.lookup t = some v) (e : v = v') : Sim cx (st.put t v') a w := by
  subst e
  obtain ⟨L, I, h⟩ := h
  obtain ⟨h1, h2⟩ := h.tm t v hl
  exact ⟨L, I, h.retell h2 h1⟩
theorem Sim.tellB {j : Nat} {hs : List Nat} {cs : List C} {ts : List T} {a : Act} {w : World} (hsim : Sim cx st a w) (hb : st.hp.lookup j = some (.var cs)) (ht : qrZ (fun k => hs.getD k 0) 0 cs = some ts) :
    Sim cx (st.addB j (.var (ts.map .t))) a w := by
  obtain ⟨L, I, h⟩ := hsim
  obtain ⟨q1, q2, arr, ty, hg, hcs⟩ := h.hp j _ hb
  have hself : w.setRow (L.m j) arr = w := by rw [setRow_self w _ arr ty (0, 0) hg]
  have := h.write (b' := .var (ts.map .t)) (arr' := arr) hb hg (fun e' sz' es' fz' he => by cases he) (fun _ _ => rfl) (fun kk =>
    ⟨q1, q2, arr, ty, setRow_heap w _ arr _ ty _ hg, qvL (kk.cs (qpE _) hcs) ht⟩)
  rw [hself] at this
  exact ⟨L, _, this⟩
theorem Sim.tellA {t : Nat} {hs : List Nat} {cs : List C} {ts : List T} {a : Act} {w : World} (hsim : Sim cx st a w) (hl : st.tm.lookup t = some (.agg cs)) (ht : qrZ (fun k => hs.getD k 0) 0 cs = some ts) :
    Sim cx (st.put t (.agg (ts.map .t))) a w := by
  obtain ⟨L, I, h⟩ := hsim
  obtain ⟨h1, h2⟩ := h.tm t _ hl
  obtain ⟨vs, e, hv⟩ := h1
  exact ⟨L, I, h.retell h2 ⟨vs, e, qvL hv ht⟩⟩
theorem Sim.sameB {jb k : Nat} {cs : List C} {c : C} {a : Act} {w : World} (hs : Sim cx st a w) (hb : st.hp.lookup jb = some (.var cs)) (hk : cs[k]? = some c) : Sim cx (st.addB jb (.var (cs.set k c))) a w := by
  obtain ⟨L, I, h⟩ := hs
  refine ⟨L, I, h.same (fun _ => rfl) (fun j => ?_) rfl⟩
  rw [St.addB_lookup]
  split
  · rename_i e; subst e
    rw [hb]
    congr 2
    apply List.ext_getElem?
    intro i
    rw [List.getElem?_set]
    split
    · rename_i e; subst e
      split
      · exact hk.symm
      · rename_i hlt; rw [List.getElem?_eq_none (by omega)]
    · rfl
  · rfl
theorem qj4 : ∀ {is : List I} {l : List Oper} {st st' : St} {φs : List Prop}, seqX P ops is l st = some (st', φs) → AllP φs → R st' → qm6 P cx ops l st R
  | [], [], st, st', φs, h, _, hr => by simp only [seqX] at h; cases h; exact zs2 hr
  | [], _ :: _, _, _, _, h, _, _ => by simp [seqX] at h
  | .op hh :: is, o :: l, st, st', φs, h, hφ, hr => by
    simp only [seqX] at h
    split at h
    · rename_i i φ hi
      split at h
      · rename_i hf
        obtain ⟨ψ, h1, rfl⟩ := qgQ h
        obtain ⟨g1, g2⟩ := hφ.append
        exact zyE (ztN hi g1) (fun j hj => List.all_eq_true.1 hf j hj) (qj4 h1 g2 hr)
      · cases h
    · cases h
  | .op _ :: _, [], _, _, _, h, _, _ => by simp [seqX] at h
  | .appR es2 es' :: is, o :: l, st, st', φs, h, hφ, hr => by
    simp only [seqX] at h
    split at h
    · rename_i args tys d hg hop hd
      split at h
      · rename_i s x t t' ha ht
        have ha' : args = #[s, x] := by rw [← Array.toArray_toList (xs := args), ha]
        have ht' : tys = #[t, t'] := by rw [← Array.toArray_toList (xs := tys), ht]
        subst ha'; subst ht'
        split at h
        · rename_i j len e sz by' z hs hi
          split at h
          · rename_i e' sz' es new hj hn
            split at h
            · rename_i hc
              obtain ⟨rfl, hsz, rfl, rfl⟩ := hc
              obtain ⟨ψ, h1, rfl⟩ := qgQ h
              obtain ⟨g1, g2⟩ := hφ.append
              obtain ⟨k1, k2, k3, k4, k5, _⟩ := g1
              subst k1; subst k2; subst k3
              have hlen : (es ++ new).length = es.length + new.length := List.length_append
              refine q2N hg (zrW hop hd hi hsz hs hj (qwB hn) (by rw [← hlen]; exact k4) (by rw [← hlen]; exact k5)) ?_
              rw [← hlen]
              exact qj4 h1 g2 hr
            · cases h
          · cases h
        · cases h
      · cases h
    · cases h
  | .appR _ _ :: _, [], _, _, _, h, _, _ => by simp [seqX] at h
  | .appT es' :: is, o :: l, st, st', φs, h, hφ, hr => by
    simp only [seqX] at h
    split at h
    · rename_i args tys d hg hop hd
      split at h
      · rename_i s x t t' ha ht
        have ha' : args = #[s, x] := by rw [← Array.toArray_toList (xs := args), ha]
        have ht' : tys = #[t, t'] := by rw [← Array.toArray_toList (xs := tys), ht]
        subst ha'; subst ht'
        split at h
        · rename_i e sz by' z hs hi
          split at h
          · rename_i new hn hjn
            split at h
            · rename_i hc
              obtain ⟨rfl, hsz, hf⟩ := hc
              obtain ⟨ψ, h1, rfl⟩ := qgQ h
              obtain ⟨g1, g2⟩ := hφ.append
              obtain ⟨k1, k2, k3, _⟩ := g1
              subst k1
              exact q2N hg (zpU hop hd hi hsz hs (qwB hn) k2 k3 hf hjn) (qj4 h1 g2 hr)
            · cases h
          · cases h
        · cases h
      · cases h
    · cases h
  | .appT _ :: _, [], _, _, _, h, _, _ => by simp [seqX] at h
  | .snap t fz' es' :: is, l, st, st', φs, h, hφ, hr => by
    simp only [seqX] at h
    split at h
    · rename_i j off len ht
      split at h
      · rename_i e sz es fz hj
        obtain ⟨ψ, h1, rfl⟩ := qgQ h
        obtain ⟨g1, g2⟩ := hφ.append
        obtain ⟨k1, k2, _⟩ := g1
        subst k1; subst k2
        exact qrM (fun a w hs => hs.snap ht hj) (qj4 h1 g2 hr)
      · cases h
    · rename_i j off len ht
      split at h
      · rename_i e sz es fz hj
        obtain ⟨ψ, h1, rfl⟩ := qgQ h
        obtain ⟨g1, g2⟩ := hφ.append
        obtain ⟨k1, k2, _⟩ := g1
        subst k1; subst k2
        exact qrM (fun a w hs => hs.snapClip ht hj) (qj4 h1 g2 hr)
      · cases h
    · cases h
  | .snapC jb k fz' es' :: is, l, st, st', φs, h, hφ, hr => by
    simp only [seqX] at h
    split at h
    · rename_i cs hb
      split at h
      · rename_i j off len hk
        split at h
        · rename_i e sz es fz hj
          obtain ⟨ψ, h1, rfl⟩ := qgQ h
          obtain ⟨g1, g2⟩ := hφ.append
          obtain ⟨k1, k2, _⟩ := g1
          subst k1; subst k2
          exact qrM (fun a w hs => hs.snapCell hb hk hj) (qj4 h1 g2 hr)
        · cases h
      · cases h
    · cases h
  | .nilT t sz :: is, l, st, st', φs, h, hφ, hr => by
    simp only [seqX] at h
    split at h
    · rename_i ht
      exact qrM (fun a w hs => hs.nilT ht) (qj4 h hφ hr)
    · cases h
  | .sb t b :: is, l, st, st', φs, h, hφ, hr => by
    simp only [seqX] at h
    split at h
    · rename_i b' ht
      obtain ⟨ψ, h1, rfl⟩ := qgQ h
      obtain ⟨g1, g2⟩ := hφ.append
      exact qrM (fun a w hs => hs.retellEq ht (by rw [g1.1]; rfl)) (qj4 h1 g2 hr)
    · cases h
  | .si t n :: is, l, st, st', φs, h, hφ, hr => by
    simp only [seqX] at h
    split at h
    · rename_i k n' ht
      obtain ⟨ψ, h1, rfl⟩ := qgQ h
      obtain ⟨g1, g2⟩ := hφ.append
      exact qrM (fun a w hs => hs.retellEq ht (by rw [g1.1]; rfl)) (qj4 h1 g2 hr)
    · cases h
  | .rl t off' len' :: is, l, st, st', φs, h, hφ, hr => by
    simp only [seqX] at h
    split at h
    · rename_i j off len ht
      obtain ⟨ψ, h1, rfl⟩ := qgQ h
      obtain ⟨g1, g2⟩ := hφ.append
      exact qrM (fun a w hs => hs.retellEq ht (by rw [g1.1, g1.2.1])) (qj4 h1 g2 hr)
    · cases h
  | .tellA t ks :: is, l, st, st', φs, h, hφ, hr => by
    simp only [seqX] at h
    split at h
    · rename_i cs ht
      split at h
      · rename_i ts hts
        exact qrM (fun a w hs => hs.tellA ht hts) (qj4 h hφ hr)
      · cases h
    · cases h
  | .tellB j ks :: is, l, st, st', φs, h, hφ, hr => by
    simp only [seqX] at h
    split at h
    · rename_i cs ht
      split at h
      · rename_i ts hts
        exact qrM (fun a w hs => hs.tellB ht hts) (qj4 h hφ hr)
      · cases h
    · cases h
  | .callR js F' res :: is, o :: l, st, st', φs, h, hφ, hr => by
    simp only [seqX] at h
    split at h
    · rename_i x args tys hg hop
      split at h
      · rename_i f caps hx
        split at h
        · rename_i hc
          obtain ⟨ψ, h1, rfl⟩ := qgQ h
          obtain ⟨g1, g2⟩ := hφ.append
          have hop' : o.op = .call { callee := .value x, args := args.toList.toArray, argTypes := tys } := by simpa using hop
          exact q2N hg (zvA hop' hx hc (zh1 st.hp js) g1.1) (qj4 h1 g2 hr)
        · cases h
      · cases h
    · cases h
  | .callR _ _ _ :: _, [], _, _, _, h, _, _ => by simp [seqX] at h
  | .callN hss e sz r :: is, o :: l, st, st', φs, h, hφ, hr => by
    simp only [seqX] at h
    split at h
    · rename_i x args tys d hg hop hd
      split at h
      · rename_i f ys hx ha
        split at h
        · rename_i hc
          obtain ⟨ψ, h1, rfl⟩ := qgQ h
          obtain ⟨g1, g2⟩ := hφ.append
          have hop' : o.op = .call { callee := .value x, args := args.toList.toArray, argTypes := tys } := by simpa using hop
          exact q2N hg (zvB hop' hd hx hc.1 ha hc.2 g1.1) (qj4 h1 g2 hr)
        · cases h
      · cases h
    · cases h
  | .callN _ _ _ _ :: _, [], _, _, _, h, _, _ => by simp [seqX] at h
  | .callC hss g cs :: is, o :: l, st, st', φs, h, hφ, hr => by
    simp only [seqX] at h
    split at h
    · rename_i x args tys d hg hop hd
      split at h
      · rename_i f ys hx ha
        split at h
        · rename_i hc
          obtain ⟨ψ, h1, rfl⟩ := qgQ h
          obtain ⟨g1, g2⟩ := hφ.append
          have hop' : o.op = .call { callee := .value x, args := args.toList.toArray, argTypes := tys } := by simpa using hop
          exact q2N hg (zvC hop' hd hx hc.1 ha hc.2 g1.1) (qj4 h1 g2 hr)
        · cases h
      · cases h
    · cases h
  | .callC _ _ _ :: _, [], _, _, _, h, _, _ => by simp [seqX] at h
  | .sliA :: is, o :: l, st, st', φs, h, hφ, hr => by
    simp only [seqX] at h
    split at h
    · rename_i t x hg hop
      split at h
      · rename_i j k n hx ht
        split at h
        · rename_i hj
          exact q2N hg (zoN (zrM hop ht hx hj)) (qj4 h hφ hr)
        · cases h
      · cases h
    · cases h
  | .sliA :: _, [], _, _, _, h, _, _ => by simp [seqX] at h
  | .callA hss res :: is, o :: l, st, st', φs, h, hφ, hr => by
    simp only [seqX] at h
    split at h
    · rename_i x args tys hg hop
      split at h
      · rename_i f ys hx ha
        split at h
        · rename_i hc
          obtain ⟨ψ, h1, rfl⟩ := qgQ h
          obtain ⟨g1, g2⟩ := hφ.append
          have hop' : o.op = .call { callee := .value x, args := args.toList.toArray, argTypes := tys } := by simpa using hop
          exact q2N hg (zvD hop' hx hc.1 ha hc.2 g1.1) (qj4 h1 g2 hr)
        · cases h
      · cases h
    · cases h
  | .callA _ _ :: _, [], _, _, _, h, _, _ => by simp [seqX] at h
  | .nrm n :: is, l, st, st', φs, h, hφ, hr => by
    simp only [seqX] at h
    split at h
    · rename_i j b r hhp
      split at h
      · rename_i r' hd
        exact qrM (fun a w hs => by obtain ⟨L, I, hs⟩ := hs; exact ⟨L, I, hs.same (fun _ => rfl) (fun k => by show ((j, b) :: r').lookup k = st.hp.lookup k; rw [hhp]; exact zc4 hd k) rfl⟩) (qj4 h hφ hr)
      · cases h
    · cases h
  | .keepT ts :: is, l, st, st', φs, h, hφ, hr => by
    simp only [seqX] at h
    exact qrM (fun a w hs => by obtain ⟨L, I, hs⟩ := hs; exact ⟨L, I, hs.sub (fun t v ht => qf0 ht) (fun _ _ hb => hb) rfl⟩) (qj4 h hφ hr)
  | .rlB jb k off' len' :: is, l, st, st', φs, h, hφ, hr => by
    simp only [seqX] at h
    split at h
    · rename_i cs hb
      split at h
      · rename_i j off len hk
        obtain ⟨ψ, h1, rfl⟩ := qgQ h
        obtain ⟨g1, g2⟩ := hφ.append
        obtain ⟨k1, k2, _⟩ := g1
        subst k1; subst k2
        exact qrM (fun a w hs => hs.sameB hb hk) (qj4 h1 g2 hr)
      · cases h
    · cases h
  | .keep ts js :: is, l, st, st', φs, h, hφ, hr => by
    simp only [seqX] at h
    exact qrM (fun a w hs => hs.keep ts js) (qj4 h hφ hr)
theorem preS : ∀ {is : List I} {st st' : St} {φs : List Prop}, seqX P #[] is [] st = some (st', φs) → AllP φs → ∀ a w, Sim cx st a w → Sim cx st' a w
  | [], st, st', φs, h, _ => by simp only [seqX] at h; cases h; exact fun _ _ hs => hs
  | .op _ :: _, _, _, _, h, _ => by simp [seqX] at h
  | .appR _ _ :: _, _, _, _, h, _ => by simp [seqX] at h
  | .appT _ :: _, _, _, _, h, _ => by simp [seqX] at h
  | .snap t fz' es' :: is, st, st', φs, h, hφ => by
    simp only [seqX] at h
    split at h
    · rename_i j off len ht
      split at h
      · rename_i e sz es fz hj
        obtain ⟨ψ, h1, rfl⟩ := qgQ h
        obtain ⟨g1, g2⟩ := hφ.append
        obtain ⟨k1, k2, _⟩ := g1
        subst k1; subst k2
        exact fun a w hs => preS h1 g2 a w (hs.snap ht hj)
      · cases h
    · rename_i j off len ht
      split at h
      · rename_i e sz es fz hj
        obtain ⟨ψ, h1, rfl⟩ := qgQ h
        obtain ⟨g1, g2⟩ := hφ.append
        obtain ⟨k1, k2, _⟩ := g1
        subst k1; subst k2
        exact fun a w hs => preS h1 g2 a w (hs.snapClip ht hj)
      · cases h
    · cases h
  | .snapC jb k fz' es' :: is, st, st', φs, h, hφ => by
    simp only [seqX] at h
    split at h
    · rename_i cs hb
      split at h
      · rename_i j off len hk
        split at h
        · rename_i e sz es fz hj
          obtain ⟨ψ, h1, rfl⟩ := qgQ h
          obtain ⟨g1, g2⟩ := hφ.append
          obtain ⟨k1, k2, _⟩ := g1
          subst k1; subst k2
          exact fun a w hs => preS h1 g2 a w (hs.snapCell hb hk hj)
        · cases h
      · cases h
    · cases h
  | .nilT t sz :: is, st, st', φs, h, hφ => by
    simp only [seqX] at h
    split at h
    · rename_i ht
      exact fun a w hs => preS h hφ a w (hs.nilT ht)
    · cases h
  | .sb t b :: is, st, st', φs, h, hφ => by
    simp only [seqX] at h
    split at h
    · rename_i b' ht
      obtain ⟨ψ, h1, rfl⟩ := qgQ h
      obtain ⟨g1, g2⟩ := hφ.append
      exact fun a w hs => preS h1 g2 a w (hs.retellEq ht (by rw [g1.1]; rfl))
    · cases h
  | .si t n :: is, st, st', φs, h, hφ => by
    simp only [seqX] at h
    split at h
    · rename_i k n' ht
      obtain ⟨ψ, h1, rfl⟩ := qgQ h
      obtain ⟨g1, g2⟩ := hφ.append
      exact fun a w hs => preS h1 g2 a w (hs.retellEq ht (by rw [g1.1]; rfl))
    · cases h
  | .rl t off' len' :: is, st, st', φs, h, hφ => by
    simp only [seqX] at h
    split at h
    · rename_i j off len ht
      obtain ⟨ψ, h1, rfl⟩ := qgQ h
      obtain ⟨g1, g2⟩ := hφ.append
      exact fun a w hs => preS h1 g2 a w (hs.retellEq ht (by rw [g1.1, g1.2.1]))
    · cases h
  | .tellA t ks :: is, st, st', φs, h, hφ => by
    simp only [seqX] at h
    split at h
    · rename_i cs ht
      split at h
      · rename_i ts hts
        exact fun a w hs => preS h hφ a w (hs.tellA ht hts)
      · cases h
    · cases h
  | .tellB j ks :: is, st, st', φs, h, hφ => by
    simp only [seqX] at h
    split at h
    · rename_i cs ht
      split at h
      · rename_i ts hts
        exact fun a w hs => preS h hφ a w (hs.tellB ht hts)
      · cases h
    · cases h
  | .callR _ _ _ :: _, _, _, _, h, _ => by simp [seqX] at h
  | .callN _ _ _ _ :: _, _, _, _, h, _ => by simp [seqX] at h
  | .callC _ _ _ :: _, _, _, _, h, _ => by simp [seqX] at h
  | .sliA :: _, _, _, _, h, _ => by simp [seqX] at h
  | .callA _ _ :: _, _, _, _, h, _ => by simp [seqX] at h
  | .nrm n :: is, st, st', φs, h, hφ => by
    simp only [seqX] at h
    split at h
    · rename_i j b r hhp
      split at h
      · rename_i r' hd
        exact fun a w hs => preS h hφ a w (by obtain ⟨L, I, hs⟩ := hs; exact ⟨L, I, hs.same (fun _ => rfl) (fun k => by show ((j, b) :: r').lookup k = st.hp.lookup k; rw [hhp]; exact zc4 hd k) rfl⟩)
      · cases h
    · cases h
  | .keepT ts :: is, st, st', φs, h, hφ => by
    simp only [seqX] at h
    exact fun a w hs => preS h hφ a w (by obtain ⟨L, I, hs⟩ := hs; exact ⟨L, I, hs.sub (fun t v ht => qf0 ht) (fun _ _ hb => hb) rfl⟩)
  | .rlB jb k off' len' :: is, st, st', φs, h, hφ => by
    simp only [seqX] at h
    split at h
    · rename_i cs hb
      split at h
      · rename_i j off len hk
        obtain ⟨ψ, h1, rfl⟩ := qgQ h
        obtain ⟨g1, g2⟩ := hφ.append
        obtain ⟨k1, k2, _⟩ := g1
        subst k1; subst k2
        exact fun a w hs => preS h1 g2 a w (hs.sameB hb hk)
      · cases h
    · cases h
  | .keep ts js :: is, st, st', φs, h, hφ => by
    simp only [seqX] at h
    exact fun a w hs => preS h hφ a w (hs.keep ts js)
theorem zmN {TP : List Oper → St → Prop} : ∀ {hs : List H} {l l' : List Oper} {st st' : St} {is : List Inf} {φs : List Prop}, zpN P ops hs l st = some (is, l', st', φs) → AllP φs → TP l' st' → zdZ P cx ops TP l is st
  | [], l, l', st, st', is, φs, h, _, hr => by simp only [zpN] at h; cases h; simpa only [zdZ] using hr
  | hh :: hs, o :: l, l', st, st', is, φs, h, hφ, hr => by
    simp only [zpN] at h
    split at h
    · rename_i i φ hi
      split at h
      · rename_i is' l'' st'' ψ h1
        cases h
        obtain ⟨g1, g2⟩ := hφ.append
        exact ⟨ztN hi g1, zmN h1 g2 hr⟩
      · cases h
    · cases h
  | _ :: _, [], _, _, _, _, _, h, _, _ => by simp [zpN] at h
end
inductive Fr where
  | code (c : Code)
  | blk (id : Nat)
  | lp (c : Code)
  | sc
inductive G where
  | reg (is : List I)
  | draw (hs : List H) (is : List I)
  | br (b : Bool)
  | go
  | pre (is : List I)
def andG (r : Option (List Fr × Exit × St × List Prop)) (ps : List Prop) : Option (List Fr × Exit × St × List Prop) := r.map fun q => (q.1, q.2.1, q.2.2.1, ps ++ q.2.2.2)
def goX (P : Program) (n : Nat) : Nat → List Fr → Exit → St → List G → Option (List Fr × Exit × St × List Prop)
  | 0, _, _, _, _ => none
  | fuel + 1, k, e, st, gs =>
    match k with
    | [] => match gs with | [] => some ([], e, st, []) | _ => none
    | .blk id :: k => match e with
      | .exit id' => goX P n fuel k (if id' = id then .normal else .exit id') st gs
      | e => goX P n fuel k e st gs
    | .lp c :: k => match e with
      | .normal => goX P n fuel (.code (.loop c) :: k) .normal st gs
      | e => goX P n fuel k e st gs
    | .sc :: k => match e with
      | .goto _ => none
      | e => goX P n fuel k e st gs
    | .code c :: k => match e with
      | .normal => match c with
        | .scope x => goX P n fuel (.code x :: .sc :: k) .normal st gs
        | .seq x y => goX P n fuel (.code x :: .code y :: k) .normal st gs
        | .block id x => goX P n fuel (.code x :: .blk id :: k) .normal st gs
        | .skip => goX P n fuel k .normal st gs
        | .exit id => goX P n fuel k (.exit id) st gs
        | .ret => goX P n fuel k .ret st gs
        | .label _ => goX P n fuel k .normal st gs
        | c => match gs with
          | [] => some (.code c :: k, .normal, st, [])
          | .pre is :: gs => match seqX P #[] is [] st with
            | some (st', φ) => andG (goX P n fuel (.code c :: k) .normal st' gs) φ
            | none => none
          | g :: gs => match c, g with
            | .region _ ops false, .reg is => if q3Y n ops.toList then match seqX P ops is ops.toList st with
                | some (st', φ) => andG (goX P n fuel k .normal st' gs) φ
                | none => none
              else none
            | .region _ ops true, .draw hs is => if q3Y n ops.toList ∧ P.follows .mixedOrders = true then match zpN P ops hs ops.toList st with
                | some (infs, l', st1, φ) => if zmD ops infs ∧ infs.length ≤ ops.toList.length ∧ infs.all (fun i => i.fresh.all fun k => st.free k) = true then match seqX P ops is l' st1 with
                    | some (st', ψ) => andG (goX P n fuel k .normal st' gs) (φ ++ ψ)
                    | none => none
                  else none
                | none => none
              else none
            | .cond cc x y, .br b => match st.ev cc with
              | .c (.t (.bool b')) => andG (goX P n fuel (.code (if b then x else y) :: k) .normal st gs) [b' = b]
              | _ => none
            | .loop x, .go => goX P n fuel (.code x :: .lp x :: k) .normal st gs
            | _, _ => none
      | e => goX P n fuel k e st gs
section
variable {P : Program} {cx : Cx}
theorem qtL {b : Frame} {a : Act} {k : List Item} {cs : List Frame} {w : World} {c : Code} : step P (lone (b.atR a (.code (.scope c) :: k)) cs w) = .next (lone (b.atR a (.code c :: .inScope c :: k)) cs w) :=
  step_lone_go (by simp [stepG, stepG.exec, Frame.atR])
theorem zmK {b : Frame} {a : Act} {k : List Item} {cs : List Frame} {w : World} {c : Code} : step P (lone (b.atR a (.inScope c :: k)) cs w) = .next (lone (b.atR a k) cs w) :=
  step_lone_go (by simp [stepG, stepG.exec, Frame.atR])
theorem q6Q {r : Option Nat} {m : Nat} {a : Act} {w : World} {Q : Exit → Act → World → Prop} {c : Code} (h : c.wpIn (qqC r) m P (Exit.noGoto Q) a w) : (Code.scope c).wpIn (qqC r) m P Q a w := by
  intro b k cs hro hb hr
  have h0 : (lone (b.atR a (.code (.scope c) :: k)) cs w).fenced P (qqC r) := fenced_calm hb hr rfl
  obtain ⟨e, a₁, w₁, hq, harr⟩ := h b (.inScope c :: k) cs hro hb hr
  cases e with
  | normal => exact ⟨.normal, a₁, w₁, hq, .head h0 qtL (StepsIn.trans harr (.one (fenced_calm hb hr rfl) zmK))⟩
  | exit id => 
    have hx : exitTo id (.inScope c :: k) = exitTo id k := by simp [exitTo]
    exact ⟨.exit id, a₁, w₁, hq, fun k' hk => .head h0 qtL (harr.1 k' (by rw [hx]; exact hk)),
      fun hr' hk => let ⟨k₁, h1, h2⟩ := harr.2 hr' (by rw [hx]; exact hk); ⟨k₁, h1, .head h0 qtL h2⟩⟩
  | goto l => exact hq.elim
  | ret => exact ⟨_, a₁, w₁, hq, .of_steps (.one h0 qtL) harr⟩
  | panic ch => exact ⟨_, a₁, w₁, hq, .of_steps (.one h0 qtL) harr⟩
  | outgrown => exact ⟨_, a₁, w₁, hq, .of_steps (.one h0 qtL) harr⟩
def LW (P : Program) (cx : Cx) (x : Code) (st : St) (Q : Exit → St → Prop) : Prop :=
  ∀ a w, Sim cx st a w → ∀ (b : Frame) (k : List Item) (cs : List Frame), b.roundOf = cx.rd → (qqC cx.rd).fn b.fn → (qqC cx.rd).room (cs.length + 1 + 2) →
    ∃ e a' w', (∃ st', Q e st' ∧ Sim cx st' a' w') ∧ ArrivesIn (Machine.fenced P (qqC cx.rd)) P (lone (b.atR a (.code x :: .inLoop x :: k)) cs w) b k cs e a' w'
theorem LW.aw {x : Code} {st : St} {Q : Exit → St → Prop} (h : LW P cx x st Q) : AW P cx (.loop x) st Q := fun a w hs b k cs hro hb hr =>
  let ⟨e, a', w', hq, harr⟩ := h a w hs b k cs hro hb hr
  ⟨e, a', w', hq, .of_steps (.one (fenced_calm hb hr rfl) stepR_loop) harr⟩
theorem LW.round {x : Code} {st : St} {Q : Exit → St → Prop} (h : AW P cx x st (zx3 (fun s => LW P cx x s Q) Q)) : LW P cx x st Q := by
  intro a w hs b k cs hro hb hr
  obtain ⟨e, a₁, w₁, ⟨s, hq, hs1⟩, harr⟩ := h a w hs b (.inLoop x :: k) cs hro hb hr
  cases e with
  | normal =>
    obtain ⟨e₂, a₂, w₂, hq₂, harr₂⟩ := hq a₁ w₁ hs1 b k cs hro hb hr
    exact ⟨e₂, a₂, w₂, hq₂, .of_steps (StepsIn.trans harr (.one (fenced_calm hb hr rfl) stepR_inLoop)) harr₂⟩
  | exit id => exact ⟨_, a₁, w₁, ⟨s, hq, hs1⟩, .pass (x := .inLoop x) rfl (fun _ _ => .inl (by simp)) harr⟩
  | goto l => exact ⟨_, a₁, w₁, ⟨s, hq, hs1⟩, .pass (x := .inLoop x) rfl (fun _ _ => .inl (by simp)) harr⟩
  | ret => exact ⟨_, a₁, w₁, ⟨s, hq, hs1⟩, .pass (x := .inLoop x) rfl (fun _ _ => .inl (by simp)) harr⟩
  | panic ch => exact ⟨_, a₁, w₁, ⟨s, hq, hs1⟩, .pass (x := .inLoop x) rfl (fun _ _ => .inl (by simp)) harr⟩
  | outgrown => exact ⟨_, a₁, w₁, ⟨s, hq, hs1⟩, .pass (x := .inLoop x) rfl (fun _ _ => .inl (by simp)) harr⟩
def CW (P : Program) (cx : Cx) (c : Code) (st : St) (Q : Exit → St → Prop) : Prop :=
  match c with
  | .loop x => LW P cx x st Q
  | c => AW P cx c st Q
theorem CW.aw {c : Code} {st : St} {Q : Exit → St → Prop} (h : CW P cx c st Q) : AW P cx c st Q := by
  cases c with
  | loop x => exact LW.aw h
  | _ => exact h
def AWk (P : Program) (cx : Cx) (F : Exit → St → Prop) : List Fr → Exit → St → Prop
  | [], e, st => F e st
  | .code c :: k, e, st => match e with
    | .normal => CW P cx c st (AWk P cx F k)
    | e => AWk P cx F k e st
  | .blk id :: k, e, st => match e with
    | .exit id' => AWk P cx F k (if id' = id then .normal else .exit id') st
    | e => AWk P cx F k e st
  | .lp c :: k, e, st => match e with
    | .normal => LW P cx c st (AWk P cx F k)
    | e => AWk P cx F k e st
  | .sc :: k, e, st => match e with
    | .goto _ => False
    | e => AWk P cx F k e st
variable {F : Exit → St → Prop} {n : Nat}
theorem zaT {r : Option (List Fr × Exit × St × List Prop)} {ps φ : List Prop} {k' : List Fr} {e' : Exit} {s : St} (h : andG r ps = some (k', e', s, φ)) : ∃ ψ, r = some (k', e', s, ψ) ∧ φ = ps ++ ψ := by
  obtain ⟨q, h1, h2⟩ := Option.map_eq_some_iff.1 h
  cases h2
  exact ⟨_, h1, rfl⟩
theorem preCW {c : Code} {Q : Exit → St → Prop} {is : List I} {st st' : St} {φs : List Prop} (h : seqX P #[] is [] st = some (st', φs)) (hφ : AllP φs) (hc : CW P cx c st' Q) : CW P cx c st Q := by
  cases c with
  | loop x => exact fun a w hs => hc a w (preS h hφ a w hs)
  | _ => exact fun a w hs => hc a w (preS h hφ a w hs)
theorem qk4 {c : Code} {k : List Fr} {st : St} (h : AWk P cx F (.code c :: k) .normal st) : AW P cx c st (AWk P cx F k) := CW.aw h
theorem ql3 (hn : cx.n = n) : ∀ {fuel : Nat} {k k' : List Fr} {e e' : Exit} {st st' : St} {gs : List G} {φs : List Prop}, goX P n fuel k e st gs = some (k', e', st', φs) → AllP φs →
    AWk P cx F k' e' st' → AWk P cx F k e st
  | 0, _, _, _, _, _, _, _, _, h, _, _ => by simp [goX] at h
  | fuel + 1, k, k', e, e', st, st', gs, φs, h, hφ, hr => by
    unfold goX at h
    cases k with
    | nil =>
      simp only at h
      split at h
      · cases h; exact hr
      · cases h
    | cons fr k =>
      cases fr with
      | blk id =>
        simp only at h
        cases e with
        | exit id' => exact (ql3 (k := k) hn h hφ hr : AWk P cx F k (if id' = id then .normal else .exit id') st)
        | normal => exact (ql3 (k := k) hn h hφ hr : AWk P cx F k .normal st)
        | goto l => exact (ql3 (k := k) hn h hφ hr : AWk P cx F k (.goto l) st)
        | ret => exact (ql3 (k := k) hn h hφ hr : AWk P cx F k .ret st)
        | panic ch => exact (ql3 (k := k) hn h hφ hr : AWk P cx F k (.panic ch) st)
        | outgrown => exact (ql3 (k := k) hn h hφ hr : AWk P cx F k .outgrown st)
      | lp c =>
        simp only at h
        cases e with
        | normal => exact (ql3 (k := .code (.loop c) :: k) hn h hφ hr : AWk P cx F (.code (.loop c) :: k) .normal st)
        | exit id' => exact (ql3 (k := k) hn h hφ hr : AWk P cx F k (.exit id') st)
        | goto l => exact (ql3 (k := k) hn h hφ hr : AWk P cx F k (.goto l) st)
        | ret => exact (ql3 (k := k) hn h hφ hr : AWk P cx F k .ret st)
        | panic ch => exact (ql3 (k := k) hn h hφ hr : AWk P cx F k (.panic ch) st)
        | outgrown => exact (ql3 (k := k) hn h hφ hr : AWk P cx F k .outgrown st)
      | sc =>
        simp only at h
        cases e with
        | exit id' => exact (ql3 (k := k) hn h hφ hr : AWk P cx F k (.exit id') st)
        | normal => exact (ql3 (k := k) hn h hφ hr : AWk P cx F k .normal st)
        | goto l => cases h
        | ret => exact (ql3 (k := k) hn h hφ hr : AWk P cx F k .ret st)
        | panic ch => exact (ql3 (k := k) hn h hφ hr : AWk P cx F k (.panic ch) st)
        | outgrown => exact (ql3 (k := k) hn h hφ hr : AWk P cx F k .outgrown st)
      | code c =>
        simp only at h
        cases e with
        | normal =>
          have stop : ∀ {k' : List Fr} {e' : Exit} {st' : St} {φs : List Prop}, some (Fr.code c :: k, Exit.normal, st, ([] : List Prop)) = some (k', e', st', φs) → AWk P cx F k' e' st' → AWk P cx F (.code c :: k) .normal st := by
            intro k' e' st' φs h hr; cases h; exact hr
          have pre : ∀ {is : List I} {gs : List G}, (match seqX P #[] is [] st with
              | some (st', φ) => andG (goX P n fuel (.code c :: k) .normal st' gs) φ
              | none => none) = some (k', e', st', φs) → AWk P cx F (.code c :: k) .normal st := by
            intro is gs h
            split at h
            · rename_i st1 φ h1
              obtain ⟨ψ, h2, rfl⟩ := zaT h
              obtain ⟨g1, g2⟩ := hφ.append
              exact preCW h1 g1 (ql3 (k := .code c :: k) hn h2 g2 hr)
            · cases h
          cases c with
          | seq x y => exact aw_seq (fun a w hs => wpIn_mono (qk4 (ql3 (k := .code x :: .code y :: k) hn h hφ hr) a w hs) fun e _ _ ⟨s, h1, h2⟩ => by
              cases e with
              | normal => exact ⟨s, CW.aw h1, h2⟩
              | _ => exact ⟨s, h1, h2⟩)
          | block id x => exact zv6 (fun a w hs => wpIn_mono (qk4 (ql3 (k := .code x :: .blk id :: k) hn h hφ hr) a w hs) fun e _ _ ⟨s, h1, h2⟩ => by
              cases e with
              | exit id' =>
                refine ⟨s, ?_, h2⟩
                simp only [zuB]
                simp only [AWk] at h1
                split
                · rename_i e; rw [if_pos e] at h1; exact h1
                · rename_i e; rw [if_neg e] at h1; exact h1
              | _ => exact ⟨s, h1, h2⟩)
          | scope x => exact fun a w hs => q6Q (wpIn_mono (qk4 (ql3 (k := .code x :: .sc :: k) hn h hφ hr) a w hs) fun e _ _ ⟨s, h1, h2⟩ => by
              cases e with
              | goto l => exact h1.elim
              | _ => exact ⟨s, h1, h2⟩)
          | skip => exact zy3 (ql3 hn h hφ hr)
          | exit id => exact zy4 (ql3 (e := .exit id) hn h hφ hr)
          | ret => exact aw_ret (ql3 (e := .ret) hn h hφ hr)
          | label l => exact zv5 (ql3 hn h hφ hr)
          | region id ops draw =>
            simp only at h
            split at h
            · exact stop h hr
            · exact pre h
            · rename_i g gs hnp
              split at h
              · rename_i ops' is heq
                cases heq
                split at h
                · rename_i hd
                  split at h
                  · rename_i st1 φ h1
                    obtain ⟨ψ, h2, rfl⟩ := zaT h
                    obtain ⟨g1, g2⟩ := hφ.append
                    have := zo9 (id := id) (Q := AWk P cx F k) hn hd (qj4 (R := AWk P cx F k .normal) (ops := ops.toList.toArray) (by simpa using h1) g1 (ql3 hn h2 g2 hr))
                    rw [Array.toArray_toList] at this
                    exact this
                  · cases h
                · cases h
              · rename_i ops' hs is heq
                cases heq
                split at h
                · rename_i hd
                  obtain ⟨hd, hmix⟩ := hd
                  split at h
                  · rename_i infs l' st1 φ h1
                    split at h
                    · rename_i hc
                      obtain ⟨hc, hm, hf⟩ := hc
                      split at h
                      · rename_i st2 ψ h2
                        obtain ⟨χ, h3, rfl⟩ := zaT h
                        obtain ⟨g1, g3⟩ := hφ.append
                        obtain ⟨g1, g2⟩ := g1.append
                        have := q6P (id := id) (Q := AWk P cx F k) infs hmix hn hd hm (by simpa using hc) hf
                          (zmN (ops := ops.toList.toArray) (by simpa using h1) g1 (qj4 (R := AWk P cx F k .normal) (by simpa using h2) g2 (ql3 hn h3 g3 hr)))
                        rw [Array.toArray_toList] at this
                        exact this
                      · cases h
                    · cases h
                  · cases h
                · cases h
              · rename_i heq; cases heq
              · rename_i heq; cases heq
              · cases h
          | cond cc x y =>
            simp only at h
            split at h
            · exact stop h hr
            · exact pre h
            · rename_i g gs hnp
              split at h
              · rename_i heq; cases heq
              · rename_i heq; cases heq
              · rename_i cc' x' y' b heq
                cases heq
                split at h
                · rename_i b' hb
                  obtain ⟨ψ, h2, rfl⟩ := zaT h
                  obtain ⟨g1, g2⟩ := hφ.append
                  have h3 := qk4 (ql3 hn h2 g2 hr)
                  refine zy5 hb (fun e => ?_) (fun e => ?_)
                  · rw [g1.1] at e; subst e; exact h3
                  · rw [g1.1] at e; subst e; exact h3
                · cases h
              · rename_i heq; cases heq
              · cases h
          | loop x =>
            simp only at h
            split at h
            · exact stop h hr
            · exact pre h
            · rename_i g gs hnp
              split at h
              · rename_i heq; cases heq
              · rename_i heq; cases heq
              · rename_i heq; cases heq
              · rename_i x' heq
                cases heq
                exact LW.round (fun a w hs => wpIn_mono (qk4 (ql3 (k := .code x :: .lp x :: k) hn h hφ hr) a w hs) fun e _ _ ⟨s, h1, h2⟩ => by
                  cases e with
                  | normal => exact ⟨s, h1, h2⟩
                  | _ => exact ⟨s, h1, h2⟩)
              · cases h
          | _ =>
            simp only at h
            split at h
            · exact stop h hr
            · exact pre h
            · cases h
        | exit id' => exact (ql3 (k := k) hn h hφ hr : AWk P cx F k (.exit id') st)
        | goto l => exact (ql3 (k := k) hn h hφ hr : AWk P cx F k (.goto l) st)
        | ret => exact (ql3 (k := k) hn h hφ hr : AWk P cx F k .ret st)
        | panic ch => exact (ql3 (k := k) hn h hφ hr : AWk P cx F k (.panic ch) st)
        | outgrown => exact (ql3 (k := k) hn h hφ hr : AWk P cx F k .outgrown st)
end
open Go.RowKit (Below)
def subC : Code → Nat → Code
  | .seq a _, 0 => a
  | .seq _ b, _ => b
  | .cond _ a _, 0 => a
  | .cond _ _ b, _ => b
  | .block _ c, _ => c
  | .loop c, _ => c
  | .scope c, _ => c
  | .rangeFunc _ _ a _, 0 => a
  | .rangeFunc _ _ _ b, _ => b
  | c, _ => c
def atC : Code → List Nat → Code
  | c, [] => c
  | c, i :: p => atC (subC c i) p
def qcS (P : Program) (f : FuncId) : Code := match P.funcs[f]? with | some fn => fn.body.getD .skip | none => .skip
def fnOk (P : Program) (f : FuncId) (n : Nat) : Bool := match P.funcs[f]? with | some fn => fn.body.isSome && fn.ntmps == n | none => false
def qd8 (P : Program) (f : FuncId) (hss : List (List Nat)) (res : TV) (e : Exit) (s : St) : Prop := match P.funcs[f]? with | some fn => Ends P fn hss res e s | none => False
theorem zvN {P : Program} {f : FuncId} {n : Nat} {args : List TV} {res : TV} (hss : List (List Nat)) (hok : fnOk P f n = true) (hl : args.length ≤ n)
    (h : ∀ cx : Cx, cx.n = n → AWk P cx (qd8 P f hss res) [.code (qcS P f)] .normal (St.init args)) : qc7 P f args res := by
  unfold fnOk at hok
  split at hok
  · rename_i fn hfn
    simp only [Bool.and_eq_true, beq_iff_eq] at hok
    obtain ⟨c, hc⟩ := Option.isSome_iff_exists.1 hok.1
    refine zq6 hss hfn hc hok.2 hl fun cx hcx _ => ?_
    have := qk4 (h cx hcx)
    have hbody : qcS P f = c := by unfold qcS; rw [hfn]; show fn.body.getD .skip = c; rw [hc]; rfl
    rw [hbody] at this
    intro a w hs
    refine wpIn_mono (this a w hs) fun e _ _ ⟨s, h1, h2⟩ => ⟨s, ?_, h2⟩
    have h1' : qd8 P f hss res e s := h1
    unfold qd8 at h1'
    rw [hfn] at h1'
    exact h1'
  · cases hok
theorem aN : AllP [] := trivial
theorem aC {p : Prop} {ps : List Prop} (h : p) (t : AllP ps) : AllP (p :: ps) := ⟨h, t⟩
theorem r0 : 0 = 0 := rfl
theorem rt : true = true := rfl
theorem rf : false = false := rfl
theorem lq {α : Type} (l : List α) : l.length = l.length := rfl
abbrev oo : I := .op .p
structure Wk (P : Program) (cx : Cx) (F : Exit → St → Prop) (k : List Fr) (e : Exit) (st : St) : Prop where
  h : AWk P cx F k e st
abbrev wI6 (x : Int) : Int := IntKind.i64.wrap x
abbrev wU6 (x : Int) : Int := IntKind.u64.wrap x
abbrev wU3 (x : Int) : Int := IntKind.u32.wrap x
abbrev wU1 (x : Int) : Int := IntKind.u8.wrap x
abbrev rgG (l : List I) : G := .reg l
abbrev opI (h : H) : I := .op h
abbrev rg1 : G := .reg [oo]
abbrev rg2 : G := .reg [oo, oo]
abbrev rg3 : G := .reg [oo, oo, oo]
abbrev rg4 : G := .reg [oo, oo, oo, oo]
abbrev rg5 : G := .reg [oo, oo, oo, oo, oo]
abbrev rg6 : G := .reg [oo, oo, oo, oo, oo, oo]
abbrev bTr : G := .br true
abbrev bFa : G := .br false
theorem qbL {P : Program} {f : FuncId} {n : Nat} {args : List TV} {res : TV} (hss : List (List Nat)) (hok : fnOk P f n = true) (hl : args.length ≤ n)
    (h : ∀ cx : Cx, cx.n = n → Wk P cx (qd8 P f hss res) [.code (qcS P f)] .normal (St.init args)) : qc7 P f args res := zvN hss hok hl fun cx hcx => (h cx hcx).h
theorem q2E {P : Program} {cx : Cx} {F : Exit → St → Prop} {n fuel : Nat} {k k' : List Fr} {e e' : Exit} {st st' : St} (gs : List G) (φs : List Prop) (hn : cx.n = n) (h : goX P n fuel k e st gs = some (k', e', st', φs)) (hφ : AllP φs)
    (hr : Wk P cx F k' e' st') : Wk P cx F k e st := ⟨ql3 hn h hφ hr.h⟩
def zr1 (P : Program) (f : FuncId) (hss : List (List Nat)) (s : St) : Option TV := match P.funcs[f]? with | some fn => (resU P s hss fn.results.toList).bind resT | none => none
theorem zrA {P : Program} {f : FuncId} {hss : List (List Nat)} {res : TV} {s : St} (h : zr1 P f hss s = some res) : qd8 P f hss res .ret s ∧ qd8 P f hss res .normal s := by
  unfold zr1 at h
  unfold qd8
  split at h
  · exact ⟨h, h⟩
  · cases h
theorem zlU {P : Program} {cx : Cx} {f : FuncId} {hss : List (List Nat)} {res : TV} {n fuel : Nat} {k : List Fr} {e : Exit} {st : St} (gs : List G) (φs : List Prop) (hn : cx.n = n)
    (h : (goX P n fuel k e st gs).bind (fun r => match r.1, r.2.1 with | [], .ret => (zr1 P f hss r.2.2.1).map fun v => (v, r.2.2.2) | [], .normal => (zr1 P f hss r.2.2.1).map fun v => (v, r.2.2.2) | _, _ => none) = some (res, φs)) (hφ : AllP φs) : Wk P cx (qd8 P f hss res) k e st := by
  refine ⟨?_⟩
  obtain ⟨⟨k', e', st', ψ⟩, h1, h2⟩ := Option.bind_eq_some_iff.1 h
  split at h2
  · rename_i hk he
    have hk : k' = [] := hk
    have he : e' = .ret := he
    subst hk; subst he
    obtain ⟨v, h3, h4⟩ := Option.map_eq_some_iff.1 h2
    cases h4
    exact ql3 hn h1 hφ (zrA h3).1
  · rename_i hk he
    have hk : k' = [] := hk
    have he : e' = .normal := he
    subst hk; subst he
    obtain ⟨v, h3, h4⟩ := Option.map_eq_some_iff.1 h2
    cases h4
    exact ql3 hn h1 hφ (zrA h3).2
  · cases h2
theorem oinj {α : Type} {a b : α} (h : some a = some b) : a = b := Option.some.inj h
theorem wkG {P : Program} {cx : Cx} {F : Exit → St → Prop} {n : Nat} {k k' : List Fr} {e e' : Exit} {st st' : St} {φs : List Prop} (gs : List G) (hn : cx.n = n) (hφ : AllP φs) (hr : Wk P cx F k' e' st') (h : goX P n 200 k e st gs = some (k', e', st', φs) := by kernel_rfl) : Wk P cx F k e st := q2E gs φs hn h hφ hr
theorem wkR {P : Program} {cx : Cx} {f : FuncId} {hss : List (List Nat)} {res : TV} {n : Nat} {k : List Fr} {e : Exit} {st : St} {φs : List Prop} (gs : List G) (hn : cx.n = n) (hφ : AllP φs)
    (h : (goX P n 200 k e st gs).bind (fun r => match r.1, r.2.1 with | [], .ret => (zr1 P f hss r.2.2.1).map fun v => (v, r.2.2.2) | [], .normal => (zr1 P f hss r.2.2.1).map fun v => (v, r.2.2.2) | _, _ => none) = some (res, φs) := by kernel_rfl) : Wk P cx (qd8 P f hss res) k e st := zlU gs φs hn h hφ
theorem qs8 {P : Program} {f : FuncId} {n : Nat} {args : List V} {F F' : List (Nat × Blk)} {res : V} (hok : okFn P f n = true) (hl : args.length ≤ n)
    (h : ∀ cx : Cx, cx.n = n → ∀ H exs, Wk P cx (zlP P f (F' ++ H) exs res) [.code (qm5 P f)] .normal ⟨idxV 0 args, F ++ H, exs⟩) : qk6 P f args F F' res :=
  ztP hok hl fun cx hcx _ H exs => by
    have := qk4 (h cx hcx H exs).h
    intro a w hs
    exact this a w hs
theorem ztQ {P : Program} {f : FuncId} {n e sz : Nat} {args : List TV} {r : Option (List (List T))} (hok : okFn P f n = true) (hl : args.length ≤ n)
    (h : ∀ cx : Cx, cx.n = n → Wk P cx (zuI P f e sz r) [.code (qm5 P f)] .normal (St.init args)) : zpE P f args e sz r :=
  ztR hok hl fun cx hcx _ => by
    have := qk4 (h cx hcx).h
    intro a w hs
    exact this a w hs
def endN (P : Program) (f : FuncId) (s : St) : Option (Option (Nat × Nat × Nat × List (List T))) := match endV P f s with
  | some (.c .nil) => some none
  | some (.c (.row j 0 n)) => match s.hp.lookup j with
    | some (.row e sz es 0) => some (some (n, e, sz, es))
    | _ => none
  | _ => none
theorem zmI {P : Program} {cx : Cx} {f : FuncId} {n' e sz fuel : Nat} {k : List Fr} {en : Exit} {st : St} (gs : List G) (φs : List Prop) (hn : cx.n = n')
    (h : (goX P n' fuel k en st gs).bind (fun q => match q.1, q.2.1 with | [], .ret => (endN P f q.2.2.1).map fun v => (v, q.2.2.2) | _, _ => none) = some (none, φs)) (hφ : AllP φs) : Wk P cx (zuI P f e sz none) k en st := by
  refine ⟨?_⟩
  obtain ⟨⟨k', e', st', ψ⟩, h1, h2⟩ := Option.bind_eq_some_iff.1 h
  split at h2
  · rename_i hk he
    have hk : k' = [] := hk
    have he : e' = .ret := he
    subst hk; subst he
    obtain ⟨v, h3, h4⟩ := Option.map_eq_some_iff.1 h2
    cases h4
    refine ql3 hn h1 hφ ⟨.inl rfl, ?_⟩
    have h3 : endN P f st' = some none := h3
    unfold endN at h3
    split at h3
    · assumption
    · split at h3 <;> cases h3
    · cases h3
  · cases h2
theorem zqH {P : Program} {cx : Cx} {f : FuncId} {n' e sz m fuel : Nat} {es0 es : List (List T)} {k : List Fr} {en : Exit} {st : St} (gs : List G) (φs : List Prop) (hn : cx.n = n')
    (h : (goX P n' fuel k en st gs).bind (fun q => match q.1, q.2.1 with | [], .ret => (endN P f q.2.2.1).map fun v => (v, q.2.2.2) | _, _ => none) = some (some (m, e, sz, es0), φs)) (hφ : AllP φs)
    (hm : m = es.length) (he : es0.take m = es) : Wk P cx (zuI P f e sz (some es)) k en st := by
  refine ⟨?_⟩
  obtain ⟨⟨k', e', st', ψ⟩, h1, h2⟩ := Option.bind_eq_some_iff.1 h
  split at h2
  · rename_i hk hen
    have hk : k' = [] := hk
    have hen : e' = .ret := hen
    subst hk; subst hen
    obtain ⟨v, h3, h4⟩ := Option.map_eq_some_iff.1 h2
    cases h4
    refine ql3 hn h1 hφ ⟨.inl rfl, ?_⟩
    have h3 : endN P f st' = some (some (m, e, sz, es0)) := h3
    unfold endN at h3
    split at h3
    · cases h3
    · rename_i j n2 hv
      split at h3
      · rename_i hl
        cases h3
        subst hm
        exact ⟨j, es0, hv, hl, he⟩
      · cases h3
    · cases h3
  · cases h2
theorem zvU {β : Type} (j : Nat) (a b : β) (H : List (Nat × β)) (k : Nat) : ((j, a) :: (j, b) :: H).lookup k = ((j, a) :: H).lookup k := by
  simp only [qcV]
  split <;> rfl
theorem qfK {P : Program} {cx : Cx} {f : FuncId} {hp : List (Nat × Blk)} {exs : List V} {res : V} {n fuel : Nat} {k : List Fr} {e : Exit} {st : St} (gs : List G) (φs : List Prop) (hp' : List (Nat × Blk)) (hn : cx.n = n)
    (h : (goX P n fuel k e st gs).bind (fun r => match r.1, r.2.1 with | [], .ret => (endV P f r.2.2.1).map fun v => (v, r.2.2.1.hp, r.2.2.1.ex, r.2.2.2) | [], .normal => (endV P f r.2.2.1).map fun v => (v, r.2.2.1.hp, r.2.2.1.ex, r.2.2.2) | _, _ => none) = some (res, hp', exs, φs)) (hφ : AllP φs)
    (hhp : ∀ k, hp'.lookup k = hp.lookup k) : Wk P cx (zlP P f hp exs res) k e st := by
  refine ⟨?_⟩
  obtain ⟨⟨k', e', st', ψ⟩, h1, h2⟩ := Option.bind_eq_some_iff.1 h
  split at h2
  · rename_i hk he
    have hk : k' = [] := hk
    have he : e' = .ret := he
    subst hk; subst he
    obtain ⟨v, h3, h4⟩ := Option.map_eq_some_iff.1 h2
    cases h4
    exact ql3 hn h1 hφ ⟨.inl rfl, hhp, rfl, h3⟩
  · rename_i hk he
    have hk : k' = [] := hk
    have he : e' = .normal := he
    subst hk; subst he
    obtain ⟨v, h3, h4⟩ := Option.map_eq_some_iff.1 h2
    cases h4
    exact ql3 hn h1 hφ ⟨.inr rfl, hhp, rfl, h3⟩
  · cases h2
def zw0 (j : Nat) : Option Nat → V
  | none => .c .nil
  | some n => .c (.row j 0 n)
theorem qa0 {α : Type} {b : Bool} {x y : Option α} {r : α} (h : (bif b then x else y) = some r) : (b = true ∧ x = some r) ∨ (b = false ∧ y = some r) := by
  cases b with
  | true => exact .inl ⟨rfl, h⟩
  | false => exact .inr ⟨rfl, h⟩
def gd {α : Type} (p : Prop) [Decidable p] (x : Option α) : Option α := if p then x else none
theorem qbV {α : Type} {p : Prop} [Decidable p] {x : Option α} {r : α} (h : gd p x = some r) : p ∧ x = some r := by
  unfold gd at h
  split at h
  · exact ⟨by assumption, h⟩
  · cases h
theorem qaU {α β : Type} {x : Option α} {f : α → Option β} {r : β} (h : x.bind f = some r) : ∃ a, x = some a ∧ f a = some r := Option.bind_eq_some_iff.1 h
def gi {α : Type} (l : List α) (i : Int) : Option α := if 0 ≤ i then l[i.toNat]? else none
theorem zxB {α : Type} {l : List α} {i : Int} {x : α} (h : gi l i = some x) (ce : α → List T) : 0 ≤ i ∧ (l.map ce)[i.toNat]? = some (ce x) := by
  unfold gi at h
  split at h
  · exact ⟨by assumption, by rw [List.getElem?_map, h]; rfl⟩
  · cases h
theorem qcZ {α β : Type} (l : List α) (f : α → β) : (l.map f).length = l.length := List.length_map f
theorem qb5 {α : Type} {l : List α} {i : Int} {x : α} (h : gi l i = some x) : 0 ≤ i := (zxB h fun _ => []).1
theorem qfP {α : Type} {l : List α} {i : Int} {x : α} (ce : α → List T) (h : gi l i = some x) : (l.map ce)[i.toNat]? = some (ce x) := (zxB h ce).2
theorem qc2 {α : Type} {l : List α} {i : Int} {x : α} (ce : α → List T) (h : gi l i = some x) : (l.map ce)[0 + i.toNat]? = some (ce x) := by rw [Nat.zero_add]; exact qfP ce h
theorem gi_lt {α : Type} {l : List α} {i : Int} {x : α} (h : gi l i = some x) : i < (l.length : Int) := by
  have h0 := qb5 h
  unfold gi at h
  rw [if_pos h0] at h
  have := (List.getElem?_eq_some_iff.1 h).1
  omega
theorem qc1 {α : Type} {l : List α} {i : Int} {x : α} {n : Nat} (h : gi l i = some x) (e : l.length = n) : i < (n : Int) := e ▸ gi_lt h
theorem qe8 {α : Type} (l : List α) (i : Nat) (y : α) (ce : α → List T) : (l.map ce).set (0 + i) (ce y) = (l.set i y).map ce := by rw [Nat.zero_add, List.map_set]
theorem quZ {α : Type} (n : Nat) (z : α) (ce : α → List T) : List.replicate n (ce z) = (List.replicate n z).map ce := by simp
theorem zqL {α : Type} (l : List α) (h k : Nat) (ce : α → List T) : ((l.map ce).take h).drop k = ((l.take h).drop k).map ce := by simp [List.map_take, List.map_drop]
theorem zgP {α : Type} (l : List α) (h : Nat) (ce : α → List T) : ((l.map ce).take h).drop 0 = (l.take h).map ce := by simp [List.map_take]
theorem qeH {α : Type} (l : List α) (n : Nat) (ce : α → List T) (e : n = l.length) : ((l.map ce).drop 0).take n = l.map ce := by subst e; simp [List.take_of_length_le]
theorem qk5 {α : Type} (l m : List α) (ce : α → List T) : l.map ce ++ m.map ce = (l ++ m).map ce := by simp
theorem zm8 {α : Type} {l : List α} {n : Nat} (ce : α → List T) (h : n ≤ l.length) : n ≤ (l.map ce).length := by simpa using h
theorem qdI {α : Type} (l : List α) (ce : α → List T) : (((l.map ce).length : Nat) : Int) = (l.length : Int) := by simp
def gio {α : Type} (l : List α) (off len : Nat) (i : Int) : Option α := if 0 ≤ i ∧ i < (len : Int) then l[off + i.toNat]? else none
theorem zw8 {α : Type} {l : List α} {off len : Nat} {i : Int} {x : α} (h : gio l off len i = some x) : 0 ≤ i := by
  unfold gio at h
  split at h
  · rename_i e; exact e.1
  · cases h
theorem zw9 {α : Type} {l : List α} {off len : Nat} {i : Int} {x : α} (h : gio l off len i = some x) : i < (len : Int) := by
  unfold gio at h
  split at h
  · rename_i e; exact e.2
  · cases h
theorem zxA {α : Type} {l : List α} {off len : Nat} {i : Int} {x : α} (ce : α → List T) (h : gio l off len i = some x) : (l.map ce)[off + i.toNat]? = some (ce x) := by
  unfold gio at h
  split at h
  · rw [List.getElem?_map, h]; rfl
  · cases h
theorem zuZ {α : Type} (l : List α) (k : Nat) (y : α) (ce : α → List T) : (l.map ce).set k (ce y) = (l.set k y).map ce := by rw [List.map_set]
theorem qu9 {α : Type} {l : List α} {i : Int} {x : α} (h : gi l i = some x) : l[i.toNat]? = some x := by
  have h0 := qb5 h
  unfold gi at h
  rw [if_pos h0] at h
  exact h
def qhE {α : Type} (l : List α) (off len : Nat) (m : List α) : List α := if off + len ≤ l.length then qdH l off (m.take (min m.length len)) else l
@[simp] theorem zvZ {α : Type} (l : List α) (off len : Nat) (m : List α) : (qhE l off len m).length = l.length := by
  unfold qhE
  split
  · simp only [qdH, List.length_append, List.length_take, List.length_drop]; omega
  · rfl
theorem qzP {α : Type} (l : List α) (off len : Nat) (m : List α) (ce : α → List T) (h : off + len ≤ l.length) : qdH (l.map ce) off ((m.map ce).take (min (m.map ce).length len)) = (qhE l off len m).map ce := by
  simp only [qhE, if_pos h, qdH, List.length_map, List.map_append, List.map_take, List.map_drop, List.length_take]
theorem room {n b : Nat} (hb : 0 < b) (h : n * b ≤ 140737488355328) : n ≤ maxLen := by
  have h1 : n ≤ n * b := Nat.le_mul_of_pos_right _ hb
  have h2 : (140737488355328 : Nat) ≤ maxLen := by decide
  omega
def rid (r : List T) : List T := r
theorem zpY (l : List (List T)) : l.map rid = l := by
  induction l with
  | nil => rfl
  | cons x l ih => rw [List.map_cons, ih]; rfl
def gid {α : Type} (dec : List T → Option α) (l : List (List T)) (i : Int) : Option α := (gi l i).bind dec
theorem znF {α : Type} {dec : List T → Option α} {l : List (List T)} {i : Int} {x : α} (h : gid dec l i = some x) : ∃ r, gi l i = some r ∧ dec r = some x := Option.bind_eq_some_iff.1 h
theorem qk2 {α : Type} {dec : List T → Option α} {l : List (List T)} {i : Int} {x : α} (h : gid dec l i = some x) : 0 ≤ i := by
  obtain ⟨r, h1, _⟩ := znF h
  exact qb5 h1
theorem q7T {α : Type} {dec : List T → Option α} {l : List (List T)} {i : Int} {x : α} {n : Nat} (h : gid dec l i = some x) (e : l.length = n) : i < (n : Int) := by
  obtain ⟨r, h1, _⟩ := znF h
  exact qc1 h1 e
theorem qn0 {α : Type} {dec : List T → Option α} {ce : α → List T} (spec : ∀ {r : List T} {x : α}, dec r = some x → r = ce x) {l : List (List T)} {i : Int} {x : α} (h : gid dec l i = some x) : (l.map rid)[i.toNat]? = some (ce x) := by
  obtain ⟨r, h1, h2⟩ := znF h
  rw [qfP rid h1, show rid r = r from rfl, spec h2]
theorem q7S {α : Type} {dec : List T → Option α} {ce : α → List T} (spec : ∀ {r : List T} {x : α}, dec r = some x → r = ce x) {l : List (List T)} {i : Int} {x : α} (h : gid dec l i = some x) : (l.map rid)[0 + i.toNat]? = some (ce x) := by
  rw [Nat.zero_add]; exact qn0 @spec h
theorem q8F (n : Nat) (z : List T) : List.replicate n z = (List.replicate n z).map rid := (zpY _).symm
def zlX (k : IntKind) : List (List T) → Option (List Int)
  | [] => some []
  | [.int k' n] :: l => if k' = k then (zlX k l).map (n :: ·) else none
  | _ :: _ => none
theorem zgM {k : IntKind} (ce : Int → List T) (hce : ∀ n, ce n = [.int k n]) : ∀ {l : List (List T)} {xs : List Int}, zlX k l = some xs → l = xs.map ce
  | [], xs, h => by cases h; rfl
  | r :: l, xs, h => by
    unfold zlX at h
    split at h
    · cases ‹_ :: _ = []›
    · rename_i k' n l' e
      cases e
      split at h
      · rename_i e; subst e
        obtain ⟨ys, h1, rfl⟩ := Option.map_eq_some_iff.1 h
        rw [List.map_cons, hce, ← zgM ce hce h1]
      · cases h
    · cases h
theorem zlW (k : IntKind) (ce : Int → List T) (hce : ∀ n, ce n = [.int k n]) : ∀ xs : List Int, zlX k (xs.map ce) = some xs
  | [] => rfl
  | x :: xs => by rw [List.map_cons, hce, zlX, if_pos rfl, zlW k ce hce xs]; rfl
end Go.Am
namespace Go.Am.X
def Ev {α : Type} (f : Nat → Option α) (r : α) : Prop := ∃ K0, ∀ K, K0 ≤ K → f K = some r
theorem qa6 {α : Type} (r : α) : Ev (fun _ => some r) r := ⟨0, fun _ _ => rfl⟩
theorem qaR {α β : Type} {f : Nat → Option α} {g : Nat → α → Option β} {x : α} {r : β} (hf : Ev f x) (hg : Ev (fun K => g K x) r) : Ev (fun K => (f K).bind (g K)) r := by
  obtain ⟨a, ha⟩ := hf
  obtain ⟨b, hb⟩ := hg
  exact ⟨max a b, fun K hK => by show (f K).bind (g K) = some r; rw [ha K (by omega), Option.bind_some]; exact hb K (by omega)⟩
theorem qb8 {α β : Type} {f : Option α} {g : Nat → α → Option β} {x : α} {r : β} (hf : f = some x) (hg : Ev (fun K => g K x) r) : Ev (fun K => f.bind (g K)) r := by
  subst hf; exact hg
theorem qaW {α : Type} {f : Nat → Option α} {r : α} (h : Ev (fun K => f (K + 1)) r) : Ev f r := by
  obtain ⟨a, ha⟩ := h
  exact ⟨a + 1, fun K hK => by
    obtain ⟨k, rfl⟩ : ∃ k, K = k + 1 := ⟨K - 1, by omega⟩
    exact ha k (by omega)⟩
theorem qgA {α : Type} {p : Prop} [Decidable p] {f : Nat → Option α} {r : α} (hp : p) (h : Ev f r) : Ev (fun K => gd p (f K)) r := by
  have : (fun K => gd p (f K)) = f := by funext K; exact if_pos hp
  rw [this]; exact h
theorem ev_t {α : Type} {b : Bool} {f g : Nat → Option α} {r : α} (hb : b = true) (h : Ev f r) : Ev (fun K => bif b then f K else g K) r := by subst hb; exact h
theorem ev_f {α : Type} {b : Bool} {f g : Nat → Option α} {r : α} (hb : b = false) (h : Ev g r) : Ev (fun K => bif b then f K else g K) r := by subst hb; exact h
theorem znJ {α : Type} {b : Bool} {f g : Nat → Option α} {r : α} (ht : b = true → Ev f r) (hf : b = false → Ev g r) : Ev (fun K => bif b then f K else g K) r := by cases b; exact hf rfl; exact ht rfl
theorem qe4 {α : Type} {f : Nat → Option α} {r s : α} (h : Ev f r) (e : r = s) : Ev f s := e ▸ h
theorem q4M (x : Int) : wU3 x = x % 4294967296 := rfl
theorem zwN (x : Int) : IntKind.wrap .u32 x = x % 4294967296 := rfl
theorem w_u64k (x : Int) : IntKind.wrap .u64 x = x % 18446744073709551616 := rfl
theorem qrY (x : Int) : wU6 x = x % 18446744073709551616 := rfl
theorem w_u8 (x : Int) : wU1 x = x % 256 := rfl
theorem qdF {x : Int} (h : -9223372036854775808 ≤ x ∧ x < 9223372036854775808) : wI6 x = x := by
  show (if (true && decide (x % 18446744073709551616 ≥ 9223372036854775808)) = true then x % 18446744073709551616 - 18446744073709551616 else x % 18446744073709551616) = x
  split
  · rename_i h1; simp at h1; omega
  · rename_i h1; simp at h1; omega
theorem zn4 (k : IntKind) (x n : Int) : qdG k x n = x / 2 ^ (min n.toNat k.bits) := by
  unfold qdG; exact Int.fdiv_eq_ediv_of_nonneg _ (Int.le_of_lt (Int.pow_pos (by decide)))
theorem zgE (x : Int) : qdG .u64 x 32 = x / 4294967296 := zn4 _ _ _
theorem zl4 {k : IntKind} {x n : Int} (h0 : 0 ≤ n) (h : n ≤ k.bits) : qdG k x n = x / 2 ^ n.toNat := by rw [zn4, Nat.min_eq_left (by omega)]
theorem zqU {k : IntKind} {x n : Int} (h0 : 0 ≤ n) (h : n ≤ k.bits) : qi3 k x n = k.wrap (x * 2 ^ n.toNat) := by unfold qi3; rw [Nat.min_eq_left (by omega)]
theorem gi_ok {α : Type} {l : List α} {i : Int} (h0 : 0 ≤ i) (h : i.toNat < l.length) : gi l i = some l[i.toNat] := by
  unfold gi; rw [if_pos h0]; exact List.getElem?_eq_getElem h
theorem qfS {α : Type} {l : List α} {i : Nat} (h : i < l.length) : gi l (i : Int) = some l[i] := by
  unfold gi; rw [if_pos (by omega)]; exact List.getElem?_eq_getElem h
theorem zaF {α : Type} {l : List α} {i : Nat} {x : α} (h : l[i]? = some x) : gi l (i : Int) = some x := by
  unfold gi; rw [if_pos (by omega)]; exact h
theorem ztU {α : Type} {l : List α} {off len i : Nat} {x : α} (hi : i < len) (h : l[off + i]? = some x) : gio l off len (i : Int) = some x := by
  unfold gio; rw [if_pos (by omega)]; exact h
def Dig (l : List Int) : Prop := ∀ x ∈ l, 0 ≤ x ∧ x < 4294967296
def val : List Int → Int
  | [] => 0
  | x :: l => x + 4294967296 * val l
@[simp] theorem q6R : val [] = 0 := rfl
@[simp] theorem qqT (x : Int) (l : List Int) : val (x :: l) = x + 4294967296 * val l := rfl
theorem q32 : Dig [] := fun _ h => by cases h
theorem qmC {x : Int} {l : List Int} : Dig (x :: l) ↔ (0 ≤ x ∧ x < 4294967296) ∧ Dig l := by
  unfold Dig; simp
theorem q4J {a b : List Int} : Dig (a ++ b) ↔ Dig a ∧ Dig b := by
  unfold Dig; simp only [List.mem_append]
  exact ⟨fun h => ⟨fun x hx => h x (.inl hx), fun x hx => h x (.inr hx)⟩, fun h x hx => hx.elim (h.1 x) (h.2 x)⟩
theorem q7Y {n : Nat} {x : Int} (h : 0 ≤ x ∧ x < 4294967296) : Dig (List.replicate n x) := fun y hy => by rw [(List.mem_replicate.1 hy).2]; exact h
theorem qk9 {a : List Int} (h : Dig a) (n : Nat) : Dig (a.take n) := fun x hx => h x (List.mem_of_mem_take hx)
theorem zvX {a : List Int} (h : Dig a) (n : Nat) : Dig (a.drop n) := fun x hx => h x (List.mem_of_mem_drop hx)
theorem qgO {a : List Int} (h : Dig a) {i : Nat} (hi : i < a.length) : 0 ≤ a[i] ∧ a[i] < 4294967296 := h _ (List.getElem_mem hi)
theorem qqI {a : List Int} (h : Dig a) (i : Nat) {x : Int} (hx : 0 ≤ x ∧ x < 4294967296) : Dig (a.set i x) := fun y hy => (List.mem_or_eq_of_mem_set hy).elim (h y) (fun e => e ▸ hx)
theorem qb1 : ∀ {l : List Int}, Dig l → 0 ≤ val l
  | [], _ => by simp
  | x :: l, h => by have := qb1 (qmC.1 h).2; have := (qmC.1 h).1; simp; omega
theorem qnX : ∀ {l : List Int}, Dig l → val l < 4294967296 ^ l.length
  | [], _ => by simp
  | x :: l, h => by
    have h1 := qnX (qmC.1 h).2
    have h2 := (qmC.1 h).1
    simp only [qqT, List.length_cons, Int.pow_succ]
    omega
theorem qmE : ∀ (a b : List Int), val (a ++ b) = val a + 4294967296 ^ a.length * val b
  | [], b => by simp
  | x :: a, b => by
    simp only [List.cons_append, qqT, List.length_cons, qmE a b, Int.pow_succ]
    grind
theorem qzR (n : Nat) : val (List.replicate n 0) = 0 := by
  induction n with
  | zero => rfl
  | succ n ih => simp [List.replicate_succ, ih]
theorem zqJ : ∀ {l : List Int}, (∀ x ∈ l, x = 0) → val l = 0
  | [], _ => rfl
  | x :: l, h => by rw [qqT, zqJ (fun y hy => h y (List.mem_cons_of_mem _ hy)), h x (List.mem_cons_self ..)]; rfl
theorem qpI (a : List Int) (n : Nat) (h : n ≤ a.length) : val a = val (a.take n) + 4294967296 ^ n * val (a.drop n) := by
  have := qmE (a.take n) (a.drop n)
  rw [List.take_append_drop, List.length_take, Nat.min_eq_left h] at this
  exact this
theorem qrK : ∀ {a : List Int} {i : Nat} (h : i < a.length) (x : Int), val (a.set i x) = val a + 4294967296 ^ i * (x - a[i])
  | y :: a, 0, _, x => by simp; omega
  | y :: a, i + 1, h, x => by
    have := qrK (a := a) (i := i) (by simpa using h) x
    simp only [List.set_cons_succ, qqT, this, List.getElem_cons_succ, Int.pow_succ]
    grind
theorem qw9 {m n : Nat} (h : m ≤ n) : (4294967296 : Int) ^ m ≤ 4294967296 ^ n := by
  obtain ⟨k, rfl⟩ := Nat.exists_eq_add_of_le h
  rw [Int.pow_add]
  have h1 : (0 : Int) < 4294967296 ^ m := Int.pow_pos (by decide)
  have h2 : (0 : Int) < 4294967296 ^ k := Int.pow_pos (by decide)
  have := Int.mul_le_mul_of_nonneg_left (show (1 : Int) ≤ 4294967296 ^ k from h2) (Int.le_of_lt h1)
  rw [Int.mul_one] at this; exact this
theorem qfV (n : Nat) : (0 : Int) < 4294967296 ^ n := Int.pow_pos (by decide)
def digN (n : Nat) : List Int := if n = 0 then [] else ((n % 4294967296 : Nat) : Int) :: digN (n / 4294967296)
def digs (z : Int) : List Int := digN z.toNat
theorem qzL : digN 0 = [] := by rw [digN, if_pos rfl]
theorem zaN {n : Nat} (h : n ≠ 0) : digN n = ((n % 4294967296 : Nat) : Int) :: digN (n / 4294967296) := by rw [digN, if_neg h]
theorem zvY (n : Nat) : Dig (digN n) := by
  induction n using Nat.strongRecOn with
  | ind n ih =>
    by_cases h : n = 0
    · rw [h, qzL]; exact q32
    · rw [zaN h, qmC]; exact ⟨by omega, ih _ (by omega)⟩
theorem zuT (n : Nat) : val (digN n) = n := by
  induction n using Nat.strongRecOn with
  | ind n ih =>
    by_cases h : n = 0
    · rw [h, qzL]; rfl
    · rw [zaN h, qqT, ih _ (by omega)]; omega
theorem qdW (z : Int) : Dig (digs z) := zvY _
theorem qdP {z : Int} (h : 0 ≤ z) : val (digs z) = z := by unfold digs; rw [zuT]; omega
theorem qhR : digs 0 = [] := qzL
theorem zaM {z : Int} (h : 0 < z) : digs z = z % 4294967296 :: digs (z / 4294967296) := by
  unfold digs
  rw [zaN (by omega)]
  congr 1
  · omega
  · congr 1; omega
theorem qkC {z : Int} (h : 0 ≤ z) : digs z = [] ↔ z = 0 := by
  constructor
  · intro e
    have := qdP h
    rw [e] at this; exact this.symm
  · rintro rfl; exact qhR
theorem qk3 {z : Int} {n : Nat} (h : z < 4294967296 ^ n) : (digs z).length ≤ n := by
  induction n generalizing z with
  | zero => unfold digs; rw [show z.toNat = 0 by simp at h; omega, qzL]; simp
  | succ n ih =>
    by_cases hz : 0 < z
    · rw [zaM hz, List.length_cons]
      have := ih (z := z / 4294967296) (by rw [Int.pow_succ] at h; omega)
      omega
    · unfold digs; rw [show z.toNat = 0 by omega, qzL]; simp
def Can : List Int → Prop
  | [] => True
  | x :: l => (0 ≤ x ∧ x < 4294967296) ∧ Can l ∧ (l = [] → x ≠ 0)
theorem zp9 : ∀ {l : List Int}, Can l → 0 ≤ val l ∧ (l ≠ [] → 0 < val l)
  | [], _ => ⟨by simp, fun h => absurd rfl h⟩
  | x :: l, h => by
    have h1 := zp9 h.2.1
    obtain ⟨h2, h3, h4⟩ := h
    by_cases hl : l = []
    · subst hl; have := h4 rfl; simp; omega
    · have := h1.2 hl; simp; omega
theorem q0D : ∀ {l : List Int}, Can l → digs (val l) = l
  | [], _ => qhR
  | x :: l, h => by
    have h1 := zp9 h
    rw [zaM (h1.2 (by simp))]
    have h2 := zp9 h.2.1
    obtain ⟨h3, h4, h5⟩ := h
    rw [show val (x :: l) % 4294967296 = x by simp; omega, show val (x :: l) / 4294967296 = val l by simp; omega, q0D h4]
theorem zv3 (n : Nat) : Can (digN n) := by
  induction n using Nat.strongRecOn with
  | ind n ih =>
    by_cases h : n = 0
    · rw [h, qzL]; trivial
    · rw [zaN h]
      refine ⟨by omega, ih _ (by omega), fun e => ?_⟩
      by_cases h2 : n / 4294967296 = 0
      · omega
      · rw [zaN h2] at e; cases e
theorem quD (z : Int) : Can (digs z) := zv3 _
theorem q70 : ∀ {l : List Int}, Dig l → (∀ x, l.getLast? = some x → x ≠ 0) → Can l
  | [], _, _ => trivial
  | [x], h, hl => ⟨(qmC.1 h).1, trivial, fun _ => hl x rfl⟩
  | x :: y :: l, h, hl => ⟨(qmC.1 h).1, q70 (qmC.1 h).2 (fun z hz => hl z (by rw [List.getLast?_cons_cons]; exact hz)), fun e => by cases e⟩
theorem zrI : ∀ {l : List Int}, Can l → ∀ hl : l ≠ [], l.getLast hl ≠ 0
  | [x], h, _ => h.2.2 rfl
  | x :: y :: l, h, _ => by rw [List.getLast_cons (by simp)]; exact zrI h.2.1 (by simp)
theorem zt8 : ∀ {l : List Int} (_ : Can l), Dig l
  | [], _ => q32
  | _ :: _, h => qmC.2 ⟨h.1, zt8 h.2.1⟩
theorem zrJ : ∀ {l : List Int}, Can l → l ≠ [] → 4294967296 ^ (l.length - 1) ≤ val l
  | [x], h, _ => by have := h.2.2 rfl; have := h.1; simp; omega
  | x :: y :: l, h, _ => by
    have h1 := zrJ h.2.1 (by simp)
    have h2 := h.1
    simp only [List.length_cons, Nat.add_sub_cancel, qqT] at h1 ⊢
    rw [Int.pow_succ]
    omega
theorem q7X {z : Int} {n : Nat} (h0 : 0 ≤ z) (h : (digs z).length ≤ n) : z < 4294967296 ^ n := by
  have h1 := qnX (qdW z)
  rw [qdP h0] at h1
  exact Int.lt_of_lt_of_le h1 (qw9 h)
theorem zrC : ∀ {a : List Int}, Dig a → a = digs (val a) ++ List.replicate (a.length - (digs (val a)).length) 0
  | [], _ => by simp [qhR]
  | x :: l, h => by
    have h1 := zrC (qmC.1 h).2
    have h2 := (qmC.1 h).1
    have h3 := qb1 (qmC.1 h).2
    by_cases hz : val (x :: l) = 0
    · rw [hz, qhR]
      simp only [qqT] at hz
      have hx : x = 0 := by omega
      have hl : val l = 0 := by omega
      rw [hl, qhR] at h1
      simp only [List.nil_append, List.length_nil, Nat.sub_zero] at h1 ⊢
      subst hx
      rw [List.length_cons, List.replicate_succ, ← h1]
    · have hp : 0 < val (x :: l) := by have := qb1 h; omega
      rw [zaM hp, show val (x :: l) % 4294967296 = x by simp; omega, show val (x :: l) / 4294967296 = val l by simp; omega]
      rw [List.cons_append, List.length_cons, List.length_cons, Nat.add_sub_add_right, ← h1]
theorem qe1 {a : List Int} (h : Dig a) : (digs (val a)).length ≤ a.length := qk3 (qnX h)
abbrev vi (k : IntKind) (n : Int) : V := .c (C.t (T.int k n))
abbrev vl {α : Type} (sz : Nat) (l : List α) (f : α → List T) : V := .c (C.t (T.sl sz (l.map f)))
abbrev tl {α : Type} (sz : Nat) (l : List α) (f : α → List T) : TV := .c (T.sl sz (l.map f))
abbrev ti (k : IntKind) (n : Int) : TV := .c (T.int k n)
def qaF (x : Int) : List T := [T.int .u32 x]
structure qaE where
  Neg : Bool
  Abs : (List Int)
def qaK (x : qaE) : List T := [(T.bool x.Neg), (T.sl 1 (x.Abs.map qaF))]
def q4A (x : Int) : List T := [T.int .i64 x]
structure qa7 where
  e0 : Int
  e1 : Int
  e2 : Int
  e3 : Int
def qbE (x : qa7) : List T := [(T.int .i64 x.e0), (T.int .i64 x.e1), (T.int .i64 x.e2), (T.int .i64 x.e3)]
structure qaM where
  Coef : qaE
  Exp : qa7
def qaA (x : qaM) : List T := [(T.bool x.Coef.Neg), (T.sl 1 (x.Coef.Abs.map qaF)), (T.int .i64 x.Exp.e0), (T.int .i64 x.Exp.e1), (T.int .i64 x.Exp.e2), (T.int .i64 x.Exp.e3)]
structure qaJ where
  Num : qaE
  Den : (List Int)
def qaB (x : qaJ) : List T := [(T.bool x.Num.Neg), (T.sl 1 (x.Num.Abs.map qaF)), (T.sl 1 (x.Den.map qaF))]
def qdX (x : List (List T)) : List T := [T.sl 4 (x.map rid)]
structure qaD where
  Level : Int
  Const : qaE
  Coefs : (List (List T))
def qaC (x : qaD) : List T := [(T.int .i64 x.Level), (T.bool x.Const.Neg), (T.sl 1 (x.Const.Abs.map qaF)), (T.sl 4 (x.Coefs.map rid))]
def qcC : List T → Option qaD
  | [T.int .i64 v0, T.bool v1, T.sl 1 v2, T.sl 4 v3] => (zlX .u32 v2).bind fun w2 => some (qaD.mk v0 (qaE.mk v1 w2) v3)
  | _ => none
theorem qbC {r : List T} {x : qaD} (h : qcC r = some x) : r = qaC x := by
  unfold qcC at h
  split at h
  · obtain ⟨w2, e2, h⟩ := Option.bind_eq_some_iff.1 h
    cases h
    simp only [qaC, zpY, ← zgM qaF (fun _ => rfl) e2]
  · cases h
theorem q7Z (x : qaD) : qcC (qaC x) = some x := by
  simp only [qaC, qcC, zpY, zlW .u32 qaF (fun _ => rfl), Option.bind_some]
structure qaG where
  Poly : qaD
  Lo : qaJ
  Hi : qaJ
def qaL (x : qaG) : List T := [(T.int .i64 x.Poly.Level), (T.bool x.Poly.Const.Neg), (T.sl 1 (x.Poly.Const.Abs.map qaF)), (T.sl 4 (x.Poly.Coefs.map rid)), (T.bool x.Lo.Num.Neg), (T.sl 1 (x.Lo.Num.Abs.map qaF)), (T.sl 1 (x.Lo.Den.map qaF)), (T.bool x.Hi.Num.Neg), (T.sl 1 (x.Hi.Num.Abs.map qaF)), (T.sl 1 (x.Hi.Den.map qaF))]
structure zwG where
  e0 : Int
  e1 : Int
  e2 : Int
  e3 : Int
def zv2 (x : zwG) : List T := [(T.int .u8 x.e0), (T.int .u8 x.e1), (T.int .u8 x.e2), (T.int .u8 x.e3)]
structure qbB where
  Coef : Int
  Exp : zwG
def qaQ (x : qbB) : List T := [(T.int .i8 x.Coef), (T.int .u8 x.Exp.e0), (T.int .u8 x.Exp.e1), (T.int .u8 x.Exp.e2), (T.int .u8 x.Exp.e3)]
def qoD (x : List qbB) : List T := [T.sl 5 (x.map qaQ)]
structure zdG where
  e0 : Int
  e1 : Int
def qiF (x : zdG) : List T := [(T.int .i8 x.e0), (T.int .i8 x.e1)]
structure qaI where
  Lo : qaJ
  Hi : qaJ
def qaN (x : qaI) : List T := [(T.bool x.Lo.Num.Neg), (T.sl 1 (x.Lo.Num.Abs.map qaF)), (T.sl 1 (x.Lo.Den.map qaF)), (T.bool x.Hi.Num.Neg), (T.sl 1 (x.Hi.Num.Abs.map qaF)), (T.sl 1 (x.Hi.Den.map qaF))]
structure qxB where
  e0 : qaJ
  e1 : qaJ
  e2 : qaJ
def zaP (x : qxB) : List T := [(T.bool x.e0.Num.Neg), (T.sl 1 (x.e0.Num.Abs.map qaF)), (T.sl 1 (x.e0.Den.map qaF)), (T.bool x.e1.Num.Neg), (T.sl 1 (x.e1.Num.Abs.map qaF)), (T.sl 1 (x.e1.Den.map qaF)), (T.bool x.e2.Num.Neg), (T.sl 1 (x.e2.Num.Abs.map qaF)), (T.sl 1 (x.e2.Den.map qaF))]
structure qx4 where
  e0 : zdG
  e1 : zdG
def zp8 (x : qx4) : List T := [(T.int .i8 x.e0.e0), (T.int .i8 x.e0.e1), (T.int .i8 x.e1.e0), (T.int .i8 x.e1.e1)]
structure qk7 where
  e0 : qx4
  e1 : qx4
  e2 : qx4
  e3 : qx4
def qmA (x : qk7) : List T := [(T.int .i8 x.e0.e0.e0), (T.int .i8 x.e0.e0.e1), (T.int .i8 x.e0.e1.e0), (T.int .i8 x.e0.e1.e1), (T.int .i8 x.e1.e0.e0), (T.int .i8 x.e1.e0.e1), (T.int .i8 x.e1.e1.e0), (T.int .i8 x.e1.e1.e1), (T.int .i8 x.e2.e0.e0), (T.int .i8 x.e2.e0.e1), (T.int .i8 x.e2.e1.e0), (T.int .i8 x.e2.e1.e1), (T.int .i8 x.e3.e0.e0), (T.int .i8 x.e3.e0.e1), (T.int .i8 x.e3.e1.e0), (T.int .i8 x.e3.e1.e1)]
def qcW : List Int := [0, 1, 2, 2, 3, 3, 3, 3, 4, 4, 4, 4, 4, 4, 4, 4, 5, 5, 5, 5, 5, 5, 5, 5, 5, 5, 5, 5, 5, 5, 5, 5, 6, 6, 6, 6, 6, 6, 6, 6, 6, 6, 6, 6, 6, 6, 6, 6, 6, 6, 6, 6, 6, 6, 6, 6, 6, 6, 6, 6, 6, 6, 6, 6, 7, 7, 7, 7, 7, 7, 7, 7, 7, 7, 7, 7, 7, 7, 7, 7, 7, 7, 7, 7, 7, 7, 7, 7, 7, 7, 7, 7, 7, 7, 7, 7, 7, 7, 7, 7, 7, 7, 7, 7, 7, 7, 7, 7, 7, 7, 7, 7, 7, 7, 7, 7, 7, 7, 7, 7, 7, 7, 7, 7, 7, 7, 7, 7, 8, 8, 8, 8, 8, 8, 8, 8, 8, 8, 8, 8, 8, 8, 8, 8, 8, 8, 8, 8, 8, 8, 8, 8, 8, 8, 8, 8, 8, 8, 8, 8, 8, 8, 8, 8, 8, 8, 8, 8, 8, 8, 8, 8, 8, 8, 8, 8, 8, 8, 8, 8, 8, 8, 8, 8, 8, 8, 8, 8, 8, 8, 8, 8, 8, 8, 8, 8, 8, 8, 8, 8, 8, 8, 8, 8, 8, 8, 8, 8, 8, 8, 8, 8, 8, 8, 8, 8, 8, 8, 8, 8, 8, 8, 8, 8, 8, 8, 8, 8, 8, 8, 8, 8, 8, 8, 8, 8, 8, 8, 8, 8, 8, 8, 8, 8, 8, 8, 8, 8, 8, 8, 8, 8, 8, 8, 8, 8]
open Go.Proofs.Tryz (prog)
inductive qrA where
 | c0 (a : (List Int))
 | c1 (a : (List Int)) (n : Int)
 | c2 (a : (List Int)) (n : Int)
def qdU : Nat → qrA → Option (List Int)
 | 0, _ => none
 | K + 1, .c0 a =>
  qdU K (.c1 a (a.length : Int))
 | K + 1, .c1 a n =>
  bif (decide ((0 : Int) < n)) then
   (gi a (wI6 (n - (1 : Int)))).bind fun x2 =>
   bif (decide (x2 = (0 : Int))) then
    qdU K (.c1 a (wI6 (n - (1 : Int))))
   else
    qdU K (.c2 a n)
  else
   qdU K (.c2 a n)
 | _ + 1, .c2 a n =>
  bif (decide (n = (0 : Int))) then
   some []
  else
   gd (0 ≤ n ∧ 0 ≤ n.toNat ∧ n.toNat ≤ a.length) <|
   some (a.take n.toNat)
def qc9 (K : Nat) (a : (List Int)) : Option (List Int) := qdU K (.c0 a)
noncomputable def qkJ : Code := qcS prog 105
noncomputable def zfK : qrA → List Fr
 | .c0 .. => [.code qkJ]
 | .c1 .. => [.code (.loop (atC qkJ [1,1,0,0,0])), .blk 0, .code (atC qkJ [1,1,1])]
 | .c2 .. => [.code (atC qkJ [1,1,1,0,0]), .code (atC qkJ [1,1,1,0,1]), .code (atC qkJ [1,1,1,1])]
def zh3 : qrA → St
 | .c0 a => St.init [(tl 1 a qaF)]
 | .c1 a n => ⟨[(0, vl 1 a qaF), (3, vi .i64 n)], [], []⟩
 | .c2 a n => ⟨[(0, vl 1 a qaF), (3, vi .i64 n)], [], []⟩
def qt3 (cx : Cx) (c : qrA) (r : (List Int)) : Prop := Wk prog cx (qd8 prog 105 [[1]] (tl 1 r qaF)) (zfK c) .normal (zh3 c)
abbrev qt4 (K : Nat) : Prop := ∀ c r, qdU K c = some r → ∀ cx : Cx, cx.n = 23 → qt3 cx c r
theorem zh6 {K} (ih : qt4 K) {cx} (hn : cx.n = 23) {a} {r} (h : qdU (K + 1) (.c0 a) = some r) : qt3 cx (.c0 a) r := by
 rw [qdU] at h
 exact wkG [rg1, rgG [oo, opI (.ln (a.length : Int)), oo], .pre [.keep [0,3] []]] hn (aC (qdI a qaF) <| aN) (ih _ _ h cx hn)
theorem zh5 {K} (ih : qt4 K) {cx} (hn : cx.n = 23) {a n} {r} (h : qdU (K + 1) (.c1 a n) = some r) : qt3 cx (.c1 a n) r := by
 rw [qdU] at h
 rcases qa0 h with ⟨h1, h⟩ | ⟨h1, h⟩
 ·obtain ⟨x2, h3, h⟩ := qaU h
  rcases qa0 h with ⟨h4, h⟩ | ⟨h4, h⟩
  ·exact wkG [.go, rgG [oo, oo, oo, .sb 8 true, oo, oo, oo, opI (.ix (qaF x2)), oo, oo, oo], bTr, rg3, .pre [.keep [0,3] []]] hn (aC h1 <| aC (qb5 h3) <| aC (qfP qaF h3) <| aC h4 <| aN) (ih _ _ h cx hn)
  ·exact wkG [.go, rgG [oo, oo, oo, .sb 8 true, oo, oo, oo, opI (.ix (qaF x2)), oo, oo, oo], bFa, .pre [.keep [0,3] []]] hn (aC h1 <| aC (qb5 h3) <| aC (qfP qaF h3) <| aC h4 <| aN) (ih _ _ h cx hn)
 ·exact wkG [.go, rgG [oo, oo, oo, .sb 8 false, oo, oo, oo, oo, oo, oo, oo], bFa, .pre [.keep [0,3] []]] hn (aC h1 <| aC rf <| aN) (ih _ _ h cx hn)
theorem zh4 {K} (_ : qt4 K) {cx} (hn : cx.n = 23) {a n} {r} (h : qdU (K + 1) (.c2 a n) = some r) : qt3 cx (.c2 a n) r := by
 rw [qdU] at h
 rcases qa0 h with ⟨h1, h⟩ | ⟨h1, h⟩
 ·have h := oinj h; subst h
  exact wkR [rg2, bTr, rg1] hn (aC h1 <| aN)
 ·obtain ⟨h2, h⟩ := qbV h
  have h := oinj h; subst h
  exact wkR [rg2, bFa, rgG [oo, oo, opI (.slT 0 n.toNat ((a.take n.toNat).map qaF)), oo]] hn (aC h1 <| aC r0 <| aC (⟨h2.1, rfl⟩ : 0 ≤ n ∧ n.toNat = n.toNat) <| aC h2.2.1 <| aC (zm8 _ h2.2.2 : n.toNat ≤ (a.map qaF).length) <| aC (zgP _ _ _ : ((a.map qaF).take n.toNat).drop 0 = (a.take n.toNat).map qaF) <| aN)
theorem qq9 : ∀ K : Nat, qt4 K
 | 0, c, r, h => by rw [qdU] at h; cases h
 | K + 1, .c0 .., r, h => fun cx hn => zh6 (qq9 K) hn h
 | K + 1, .c1 .., r, h => fun cx hn => zh5 (qq9 K) hn h
 | K + 1, .c2 .., r, h => fun cx hn => zh4 (qq9 K) hn h
theorem qa5 {K : Nat} {a : (List Int)} {r : (List Int)} (h : qc9 K a = some r) : qc7 prog 105 [(tl 1 a qaF)] (tl 1 r qaF) :=
 qbL [[1]] (by kernel_rfl) (by simp) fun cx hn => qq9 K (.c0 a) r h cx hn
open Go.Proofs.Tryz (prog)
inductive qoP where
 | c0 (a : (List Int))
def qkL : Nat → qoP → Option (List Int)
 | 0, _ => none
 | K + 1, .c0 a =>
  (qc9 K a).bind fun x1 =>
  gd (x1.length * 4 ≤ 140737488355328) <|
  some x1
def qgN (K : Nat) (a : (List Int)) : Option (List Int) := qkL K (.c0 a)
noncomputable def q68 : Code := qcS prog 107
noncomputable def q86 : qoP → List Fr
 | .c0 .. => [.code q68]
def zcF : qoP → St
 | .c0 a => St.init [(tl 1 a qaF)]
def q09 (cx : Cx) (c : qoP) (r : (List Int)) : Prop := Wk prog cx (qd8 prog 107 [[1]] (tl 1 r qaF)) (q86 c) .normal (zcF c)
abbrev q1A (K : Nat) : Prop := ∀ c r, qkL K c = some r → ∀ cx : Cx, cx.n = 6 → q09 cx c r
theorem zcG {K} (_ : q1A K) {cx} (hn : cx.n = 6) {a} {r} (h : qkL (K + 1) (.c0 a) = some r) : q09 cx (.c0 a) r := by
 rw [qkL] at h
 obtain ⟨x1, h2, h⟩ := qaU h
 obtain ⟨h3, h⟩ := qbV h
 have h := oinj h; subst h
 exact wkR [rg1, rgG [oo, opI (.call [[1]] [(tl 1 a qaF)] (tl 1 x1 qaF)), .appT (x1.map qaF), oo]] hn (aC (qa5 h2) <| aC (rfl : x1.map qaF = x1.map qaF) <| aC ((qcZ _ _).symm ▸ h3 : (x1.map qaF).length * 4 ≤ 140737488355328) <| aC ((qcZ _ _).symm ▸ room (by decide) h3 : (x1.map qaF).length ≤ maxLen) <| aN)
theorem qxQ : ∀ K : Nat, q1A K
 | 0, c, r, h => by rw [qkL] at h; cases h
 | K + 1, .c0 .., r, h => fun cx hn => zcG (qxQ K) hn h
theorem qdD {K : Nat} {a : (List Int)} {r : (List Int)} (h : qgN K a = some r) : qc7 prog 107 [(tl 1 a qaF)] (tl 1 r qaF) :=
 qbL [[1]] (by kernel_rfl) (by simp) fun cx hn => qxQ K (.c0 a) r h cx hn
open Go.Proofs.Tryz (prog)
inductive qoQ where
 | c0 (a : (List Int))
def qkM : Nat → qoQ → Option Bool
 | 0, _ => none
 | K + 1, .c0 a =>
  (qc9 K a).bind fun x1 =>
  some (decide ((x1.length : Int) = (0 : Int)))
def qi6 (K : Nat) (a : (List Int)) : Option Bool := qkM K (.c0 a)
noncomputable def q69 : Code := qcS prog 44
noncomputable def q87 : qoQ → List Fr
 | .c0 .. => [.code q69]
def zcH : qoQ → St
 | .c0 a => St.init [(tl 1 a qaF)]
def q1B (cx : Cx) (c : qoQ) (r : Bool) : Prop := Wk prog cx (qd8 prog 44 [[0]] (TV.c (T.bool r))) (q87 c) .normal (zcH c)
abbrev q1C (K : Nat) : Prop := ∀ c r, qkM K c = some r → ∀ cx : Cx, cx.n = 7 → q1B cx c r
theorem zcI {K} (_ : q1C K) {cx} (hn : cx.n = 7) {a} {r} (h : qkM (K + 1) (.c0 a) = some r) : q1B cx (.c0 a) r := by
 rw [qkM] at h
 obtain ⟨x1, h2, h⟩ := qaU h
 have h := oinj h; subst h
 exact wkR [rg1, rgG [oo, opI (.call [[1]] [(tl 1 a qaF)] (tl 1 x1 qaF)), opI (.ln (x1.length : Int)), oo, oo]] hn (aC (qa5 h2) <| aC (qdI x1 qaF) <| aN)
theorem qxR : ∀ K : Nat, q1C K
 | 0, c, r, h => by rw [qkM] at h; cases h
 | K + 1, .c0 .., r, h => fun cx hn => zcI (qxR K) hn h
theorem qdV {K : Nat} {a : (List Int)} {r : Bool} (h : qi6 K a = some r) : qc7 prog 44 [(tl 1 a qaF)] (TV.c (T.bool r)) :=
 qbL [[0]] (by kernel_rfl) (by simp) fun cx hn => qxR K (.c0 a) r h cx hn
open Go.Proofs.Tryz (prog)
inductive qt6 where
 | c0 (n : Int)
def qpZ : Nat → qt6 → Option (List Int)
 | 0, _ => none
 | K + 1, .c0 n =>
  (qc9 K ([(wU3 n), (wU3 (qdG .u64 n (32 : Int)))] : List Int)).bind fun x1 =>
  some x1
def qp1 (K : Nat) (n : Int) : Option (List Int) := qpZ K (.c0 n)
noncomputable def ziB : Code := qcS prog 48
noncomputable def zkW : qt6 → List Fr
 | .c0 .. => [.code ziB]
def zm5 : qt6 → St
 | .c0 n => St.init [(ti .u64 n)]
def zdO (cx : Cx) (c : qt6) (r : (List Int)) : Prop := Wk prog cx (qd8 prog 48 [[1]] (tl 1 r qaF)) (zkW c) .normal (zm5 c)
abbrev zdP (K : Nat) : Prop := ∀ c r, qpZ K c = some r → ∀ cx : Cx, cx.n = 10 → zdO cx c r
theorem zm6 {K} (_ : zdP K) {cx} (hn : cx.n = 10) {n} {r} (h : qpZ (K + 1) (.c0 n) = some r) : zdO cx (.c0 n) r := by
 rw [qpZ] at h
 obtain ⟨x1, h2, h⟩ := qaU h
 have h := oinj h; subst h
 exact wkR [rg1, rgG [oo, oo, oo, oo, oo, opI (.lit (([(wU3 n), (wU3 (qdG .u64 n (32 : Int)))] : List Int).map qaF)), .snap 8 (max 0 (0 + 2)) (([(wU3 n), (wU3 (qdG .u64 n (32 : Int)))] : List Int).map qaF), opI (.call [[1]] [(TV.c (T.sl 1 (([(wU3 n), (wU3 (qdG .u64 n (32 : Int)))] : List Int).map qaF)))] (tl 1 x1 qaF)), oo]] hn (aC (by kernel_rfl : [(T.int .u32 (wU3 n)), (T.int .u32 (wU3 (qdG .u64 n (32 : Int))))] = (([(wU3 n), (wU3 (qdG .u64 n (32 : Int)))] : List Int).map qaF).flatten) <| aC (qeH _ _ _ (by simp) : ((([(wU3 n), (wU3 (qdG .u64 n (32 : Int)))] : List Int).map qaF).drop 0).take 2 = ([(wU3 n), (wU3 (qdG .u64 n (32 : Int)))] : List Int).map qaF) <| aC (rfl : (max 0 (0 + 2)) = (max 0 (0 + 2))) <| aC (qa5 h2) <| aN)
theorem q58 : ∀ K : Nat, zdP K
 | 0, c, r, h => by rw [qpZ] at h; cases h
 | K + 1, .c0 .., r, h => fun cx hn => zm6 (q58 K) hn h
theorem qlO {K : Nat} {n : Int} {r : (List Int)} (h : qp1 K n = some r) : qc7 prog 48 [(ti .u64 n)] (tl 1 r qaF) :=
 qbL [[1]] (by kernel_rfl) (by simp) fun cx hn => q58 K (.c0 n) r h cx hn
open Go.Proofs.Tryz (prog)
inductive qsY where
 | c0 (a : (List Int)) (b : (List Int))
 | c1 (a : (List Int)) (b : (List Int)) (i : Int)
def qfI : Nat → qsY → Option Int
 | 0, _ => none
 | K + 1, .c0 a b =>
  (qc9 K a).bind fun x1 =>
  (qc9 K b).bind fun x3 =>
  bif (decide ((x3.length : Int) < (x1.length : Int))) then
   some (1 : Int)
  else
   bif (decide ((x1.length : Int) < (x3.length : Int))) then
    some (-1 : Int)
   else
    qfI K (.c1 x1 x3 (wI6 ((x1.length : Int) - (1 : Int))))
 | K + 1, .c1 a b i =>
  bif (decide ((0 : Int) ≤ i)) then
   (gi a i).bind fun x2 =>
   (gi b i).bind fun x4 =>
   bif (decide (x4 < x2)) then
    some (1 : Int)
   else
    (gi a i).bind fun x7 =>
    (gi b i).bind fun x9 =>
    bif (decide (x7 < x9)) then
     some (-1 : Int)
    else
     qfI K (.c1 a b (wI6 (i - (1 : Int))))
  else
   some (0 : Int)
def qrR (K : Nat) (a : (List Int)) (b : (List Int)) : Option Int := qfI K (.c0 a b)
noncomputable def qu5 : Code := qcS prog 102
noncomputable def ziD : qsY → List Fr
 | .c0 .. => [.code qu5]
 | .c1 .. => [.code (.loop (atC qu5 [1,1,1,0,1,0,0])), .blk 1, .code (atC qu5 [1,1,1,1])]
def zk2 : qsY → St
 | .c0 a b => St.init [(tl 1 a qaF), (tl 1 b qaF)]
 | .c1 a b i => ⟨[(0, vl 1 a qaF), (1, vl 1 b qaF), (5, vi .i64 i)], [], []⟩
def qz7 (cx : Cx) (c : qsY) (r : Int) : Prop := Wk prog cx (qd8 prog 102 [[0]] (ti .i64 r)) (ziD c) .normal (zk2 c)
abbrev qz8 (K : Nat) : Prop := ∀ c r, qfI K c = some r → ∀ cx : Cx, cx.n = 47 → qz7 cx c r
theorem zk4 {K} (ih : qz8 K) {cx} (hn : cx.n = 47) {a b} {r} (h : qfI (K + 1) (.c0 a b) = some r) : qz7 cx (.c0 a b) r := by
 rw [qfI] at h
 obtain ⟨x1, h2, h⟩ := qaU h
 obtain ⟨x3, h4, h⟩ := qaU h
 rcases qa0 h with ⟨h5, h⟩ | ⟨h5, h⟩
 ·have h := oinj h; subst h
  exact wkR [rg1, rgG [oo, opI (.call [[1]] [(tl 1 a qaF)] (tl 1 x1 qaF)), oo, opI (.call [[1]] [(tl 1 b qaF)] (tl 1 x3 qaF)), oo, oo], rgG [oo, opI (.ln (x1.length : Int)), oo, opI (.ln (x3.length : Int)), oo, oo], bTr, rg1] hn (aC (qa5 h2) <| aC (qa5 h4) <| aC (qdI x1 qaF) <| aC (qdI x3 qaF) <| aC h5 <| aN)
 ·rcases qa0 h with ⟨h6, h⟩ | ⟨h6, h⟩
  ·have h := oinj h; subst h
   exact wkR [rg1, rgG [oo, opI (.call [[1]] [(tl 1 a qaF)] (tl 1 x1 qaF)), oo, opI (.call [[1]] [(tl 1 b qaF)] (tl 1 x3 qaF)), oo, oo], rgG [oo, opI (.ln (x1.length : Int)), oo, opI (.ln (x3.length : Int)), oo, oo], bFa, rgG [oo, opI (.ln (x1.length : Int)), oo, opI (.ln (x3.length : Int)), oo, oo], bTr, rg1] hn (aC (qa5 h2) <| aC (qa5 h4) <| aC (qdI x1 qaF) <| aC (qdI x3 qaF) <| aC h5 <| aC (qdI x1 qaF) <| aC (qdI x3 qaF) <| aC h6 <| aN)
  ·exact wkG [rg1, rgG [oo, opI (.call [[1]] [(tl 1 a qaF)] (tl 1 x1 qaF)), oo, opI (.call [[1]] [(tl 1 b qaF)] (tl 1 x3 qaF)), oo, oo], rgG [oo, opI (.ln (x1.length : Int)), oo, opI (.ln (x3.length : Int)), oo, oo], bFa, rgG [oo, opI (.ln (x1.length : Int)), oo, opI (.ln (x3.length : Int)), oo, oo], bFa, rgG [oo, opI (.ln (x1.length : Int)), oo, oo], .pre [.keep [0,1,5] []]] hn (aC (qa5 h2) <| aC (qa5 h4) <| aC (qdI x1 qaF) <| aC (qdI x3 qaF) <| aC h5 <| aC (qdI x1 qaF) <| aC (qdI x3 qaF) <| aC h6 <| aC (qdI x1 qaF) <| aN) (ih _ _ h cx hn)
theorem zk3 {K} (ih : qz8 K) {cx} (hn : cx.n = 47) {a b i} {r} (h : qfI (K + 1) (.c1 a b i) = some r) : qz7 cx (.c1 a b i) r := by
 rw [qfI] at h
 rcases qa0 h with ⟨h1, h⟩ | ⟨h1, h⟩
 ·obtain ⟨x2, h3, h⟩ := qaU h
  obtain ⟨x4, h5, h⟩ := qaU h
  rcases qa0 h with ⟨h6, h⟩ | ⟨h6, h⟩
  ·have h := oinj h; subst h
   exact wkR [.go, rg2, bTr, .draw [.p, .p, (.ix (qaF x2)), .p, .p, .p, (.ix (qaF x4)), .p] [.op .p], bTr, rg1] hn (aC h1 <| aC (qb5 h3) <| aC (qfP qaF h3) <| aC (qb5 h5) <| aC (qfP qaF h5) <| aC h6 <| aN)
  ·obtain ⟨x7, h8, h⟩ := qaU h
   obtain ⟨x9, h10, h⟩ := qaU h
   rcases qa0 h with ⟨h11, h⟩ | ⟨h11, h⟩
   ·have h := oinj h; subst h
    exact wkR [.go, rg2, bTr, .draw [.p, .p, (.ix (qaF x2)), .p, .p, .p, (.ix (qaF x4)), .p] [.op .p], bFa, .draw [.p, .p, (.ix (qaF x7)), .p, .p, .p, (.ix (qaF x9)), .p] [.op .p], bTr, rg1] hn (aC h1 <| aC (qb5 h3) <| aC (qfP qaF h3) <| aC (qb5 h5) <| aC (qfP qaF h5) <| aC h6 <| aC (qb5 h8) <| aC (qfP qaF h8) <| aC (qb5 h10) <| aC (qfP qaF h10) <| aC h11 <| aN)
   ·exact wkG [.go, rg2, bTr, .draw [.p, .p, (.ix (qaF x2)), .p, .p, .p, (.ix (qaF x4)), .p] [.op .p], bFa, .draw [.p, .p, (.ix (qaF x7)), .p, .p, .p, (.ix (qaF x9)), .p] [.op .p], bFa, rg3, .pre [.keep [0,1,5] []]] hn (aC h1 <| aC (qb5 h3) <| aC (qfP qaF h3) <| aC (qb5 h5) <| aC (qfP qaF h5) <| aC h6 <| aC (qb5 h8) <| aC (qfP qaF h8) <| aC (qb5 h10) <| aC (qfP qaF h10) <| aC h11 <| aN) (ih _ _ h cx hn)
 ·have h := oinj h; subst h
  exact wkR [.go, rg2, bFa, rg1] hn (aC h1 <| aN)
theorem qwJ : ∀ K : Nat, qz8 K
 | 0, c, r, h => by rw [qfI] at h; cases h
 | K + 1, .c0 .., r, h => fun cx hn => zk4 (qwJ K) hn h
 | K + 1, .c1 .., r, h => fun cx hn => zk3 (qwJ K) hn h
theorem qg1 {K : Nat} {a : (List Int)} {b : (List Int)} {r : Int} (h : qrR K a b = some r) : qc7 prog 102 [(tl 1 a qaF), (tl 1 b qaF)] (ti .i64 r) :=
 qbL [[0]] (by kernel_rfl) (by simp) fun cx hn => qwJ K (.c0 a b) r h cx hn
theorem qwV {a : List Int} {n : Nat} (h : a[n]? = some 0) : val (a.take (n + 1)) = val (a.take n) := by
  obtain ⟨hn, h1⟩ := List.getElem?_eq_some_iff.1 h
  have h2 : a.take (n + 1) = a.take n ++ [0] := by rw [List.take_add_one, h]; rfl
  rw [h2, qmE]; simp
theorem q3F {a : List Int} {n : Nat} (hd : Dig a) (hn : n ≤ a.length) (hz : n ≠ 0 → a[n - 1]? ≠ some 0) : Ev (fun K => qdU K (.c2 a n)) (digs (val (a.take n))) := by
  refine qaW ?_
  simp only [qdU]
  by_cases h : n = 0
  · subst h
    refine ev_t (by simp) ?_
    rw [List.take_zero, q6R, qhR]; exact qa6 _
  · refine ev_f (by simp; exact h) (qgA (by simp; exact hn) ?_)
    rw [Int.toNat_natCast, q0D]
    · exact qa6 _
    · refine q70 (qk9 hd n) fun x hx => ?_
      rw [List.getLast?_take, if_neg h] at hx
      rintro rfl
      have hn1 : n - 1 < a.length := by omega
      rw [List.getElem?_eq_getElem hn1] at hx
      have := hz h
      rw [List.getElem?_eq_getElem hn1] at this
      simp at hx this
      exact this hx
theorem q3G {a : List Int} (hd : Dig a) (hs : a.length < 4611686018427387904) : ∀ {n : Nat}, n ≤ a.length → Ev (fun K => qdU K (.c1 a n)) (digs (val (a.take n)))
  | 0, hn => by
    refine qaW ?_
    simp only [qdU]
    exact ev_f (by simp) (q3F hd hn (fun h => absurd rfl h))
  | n + 1, hn => by
    refine qaW ?_
    simp only [qdU]
    refine ev_t (by simp) ?_
    rw [qdF (by omega), show ((n + 1 : Nat) : Int) - 1 = (n : Int) by omega]
    refine qb8 (qfS (by omega)) ?_
    by_cases h : a[n]'(by omega) = 0
    · refine ev_t (by simp [h]) ?_
      have := q3G hd hs (n := n) (by omega)
      rw [qwV (by rw [List.getElem?_eq_getElem (by omega), h])]
      exact this
    · refine ev_f (by simp [h]) (q3F hd hn fun _ => ?_)
      rw [Nat.add_sub_cancel, List.getElem?_eq_getElem (by omega)]
      simpa using h
theorem qc3 {a : List Int} (hd : Dig a) (hs : a.length < 4611686018427387904) : Ev (fun K => qc9 K a) (digs (val a)) := by
  refine qaW ?_
  simp only [qc9, qdU]
  have := q3G hd hs (Nat.le_refl _)
  rw [List.take_length] at this
  exact this
theorem qyW (z : Int) (hz : 0 ≤ z) (hs : (digs z).length < 4611686018427387904) : Ev (fun K => qc9 K (digs z)) (digs z) := by
  have := qc3 (qdW z) hs
  rwa [qdP hz] at this
theorem qiS {a : List Int} (hd : Dig a) (hs : a.length ≤ 34359738368) : Ev (fun K => qgN K a) (digs (val a)) := by
  refine qaW ?_
  simp only [qgN, qkL]
  refine qaR (qc3 hd (by omega)) (qgA ?_ (qa6 _))
  have := qe1 hd
  omega
theorem qkN {a : List Int} (hd : Dig a) (hs : a.length < 4611686018427387904) : Ev (fun K => qi6 K a) (decide (val a = 0)) := by
  refine qaW ?_
  simp only [qi6, qkM]
  refine qaR (qc3 hd hs) (qe4 (qa6 _) ?_)
  have := qkC (qb1 hd)
  rw [decide_eq_decide, ← this]
  simp
theorem qp0 {n : Int} (h0 : 0 ≤ n) (h : n < 18446744073709551616) : Ev (fun K => qp1 K n) (digs n) := by
  refine qaW ?_
  simp only [qp1, qpZ, q4M, zgE]
  have : val [n % 4294967296, n / 4294967296 % 4294967296] = n := by simp; omega
  have ht := qc3 (a := [n % 4294967296, n / 4294967296 % 4294967296]) (by simp only [qmC]; exact ⟨by omega, by omega, q32⟩) (by simp)
  rw [this] at ht
  exact qaR ht (qa6 _)
def cmpI (x y : Int) : Int := if x < y then -1 else if y < x then 1 else 0
theorem qzS {a b : List Int} (ha : Can a) (hb : Can b) (h : a.length < b.length) : val a < val b := by
  have h1 := qnX (zt8 ha)
  have h2 := zrJ hb (by rintro rfl; simp at h)
  have h3 := qw9 (m := a.length) (n := b.length - 1) (by omega)
  omega
theorem q6B {a b : List Int} (ha : Dig a) (hb : Dig b) (hl : a.length = b.length) (hs : a.length < 4611686018427387904) : ∀ {n : Nat}, n ≤ a.length → a.drop n = b.drop n → Ev (fun K => qfI K (.c1 a b ((n : Int) - 1))) (cmpI (val a) (val b))
  | 0, _, h => by
    refine qaW ?_
    simp only [qfI]
    simp only [List.drop_zero] at h
    subst h
    refine ev_f (by simp) (qe4 (qa6 _) ?_)
    simp [cmpI]
  | n + 1, hn, h => by
    refine qaW ?_
    simp only [qfI]
    rw [show ((n + 1 : Nat) : Int) - 1 = (n : Int) by omega]
    refine ev_t (by simp) (qb8 (qfS (by omega)) (qb8 (qfS (by omega)) ?_))
    have ea := qpI a n (by omega)
    have eb := qpI b n (by omega)
    rw [List.drop_eq_getElem_cons (by omega), qqT] at ea eb
    rw [h] at ea
    have la := qnX (qk9 ha n)
    have lb := qnX (qk9 hb n)
    have na := qb1 (qk9 ha n)
    have nb := qb1 (qk9 hb n)
    rw [List.length_take, Nat.min_eq_left (by omega)] at la lb
    have hp := qfV n
    have key : ∀ x y P s t : Int, 0 < P → s < P → 0 ≤ t → x < y → s + P * x < t + P * y := by
      intro x y P s t h1 h2 h3 h4
      have := Int.mul_le_mul_of_nonneg_left (show x + 1 ≤ y by omega) (Int.le_of_lt h1)
      rw [Int.mul_add] at this
      omega
    by_cases h1 : b[n]'(by omega) < a[n]'(by omega)
    · refine ev_t (by simp [h1]) (qe4 (qa6 _) ?_)
      have := key _ _ _ _ _ hp lb na (show b[n]'(by omega) + 4294967296 * val (b.drop (n + 1)) < a[n]'(by omega) + 4294967296 * val (b.drop (n + 1)) by omega)
      unfold cmpI
      rw [if_neg (by omega), if_pos (by omega)]
    · refine ev_f (by simpa using h1) (qb8 (qfS (by omega)) (qb8 (qfS (by omega)) ?_))
      by_cases h2 : a[n]'(by omega) < b[n]'(by omega)
      · refine ev_t (by simp [h2]) (qe4 (qa6 _) ?_)
        have := key _ _ _ _ _ hp la nb (show a[n]'(by omega) + 4294967296 * val (b.drop (n + 1)) < b[n]'(by omega) + 4294967296 * val (b.drop (n + 1)) by omega)
        unfold cmpI
        rw [if_pos (by omega)]
      · refine ev_f (by simpa using h2) ?_
        rw [qdF (by omega)]
        refine q6B ha hb hl hs (by omega) ?_
        rw [List.drop_eq_getElem_cons (by omega), List.drop_eq_getElem_cons (l := b) (by omega), h]
        congr 1; omega
theorem qt7 {a b : List Int} (ha : Dig a) (hb : Dig b) (hs : a.length < 4611686018427387904) (ht : b.length < 4611686018427387904) : Ev (fun K => qrR K a b) (cmpI (val a) (val b)) := by
  refine qaW ?_
  simp only [qrR, qfI]
  have va := qdP (qb1 ha)
  have vb := qdP (qb1 hb)
  refine qaR (qc3 ha hs) (qaR (qc3 hb ht) ?_)
  have l1 := qe1 ha
  by_cases h1 : (digs (val b)).length < (digs (val a)).length
  · refine ev_t (by simpa using h1) (qe4 (qa6 _) ?_)
    have := qzS (quD _) (quD _) h1
    unfold cmpI
    rw [if_neg (by omega), if_pos (by omega)]
  · refine ev_f (by simpa using h1) ?_
    by_cases h2 : (digs (val a)).length < (digs (val b)).length
    · refine ev_t (by simpa using h2) (qe4 (qa6 _) ?_)
      have := qzS (quD _) (quD _) h2
      unfold cmpI
      rw [if_pos (by omega)]
    · refine ev_f (by simpa using h2) ?_
      rw [qdF (by omega)]
      have := q6B (qdW (val a)) (qdW (val b)) (by omega) (by omega) (n := (digs (val a)).length) (by omega) (by rw [List.drop_of_length_le (by omega), List.drop_of_length_le (by omega)])
      rw [va, vb] at this
      exact this
open Go.Proofs.Tryz (prog)
inductive qnN where
 | c0 (x : Int) (y : Int) (carry : Int)
def qjP : Nat → qnN → Option (Int × Int)
 | 0, _ => none
 | _ + 1, .c0 x y carry =>
  some ((wU3 (wU6 ((wU6 ((wU6 x) + (wU6 y))) + (wU6 carry)))), (wU3 (qdG .u64 (wU6 ((wU6 ((wU6 x) + (wU6 y))) + (wU6 carry))) (32 : Int))))
def qjB (K : Nat) (x : Int) (y : Int) (carry : Int) : Option (Int × Int) := qjP K (.c0 x y carry)
noncomputable def q42 : Code := qcS prog 112
noncomputable def q7K : qnN → List Fr
 | .c0 .. => [.code q42]
def q9S : qnN → St
 | .c0 x y carry => St.init [(ti .u32 x), (ti .u32 y), (ti .u32 carry)]
def qzA (cx : Cx) (c : qnN) (r : (Int × Int)) : Prop := Wk prog cx (qd8 prog 112 [[0], [0]] (TV.tup [(false, [(T.int .u32 r.1)]), (false, [(T.int .u32 r.2)])])) (q7K c) .normal (q9S c)
abbrev qzB (K : Nat) : Prop := ∀ c r, qjP K c = some r → ∀ cx : Cx, cx.n = 22 → qzA cx c r
theorem q9T {K} (_ : qzB K) {cx} (hn : cx.n = 22) {x y carry} {r} (h : qjP (K + 1) (.c0 x y carry) = some r) : qzA cx (.c0 x y carry) r := by
 rw [qjP] at h
 have h := oinj h; subst h
 exact zlU (fuel := 70) [rg2, rgG [oo, oo, oo, oo, oo, oo, oo, oo, oo], rg3, rg4] _ hn (by kernel_rfl) aN
theorem qwU : ∀ K : Nat, qzB K
 | 0, c, r, h => by rw [qjP] at h; cases h
 | K + 1, .c0 .., r, h => fun cx hn => q9T (qwU K) hn h
theorem qjA {K : Nat} {x : Int} {y : Int} {carry : Int} {r : (Int × Int)} (h : qjB K x y carry = some r) : qc7 prog 112 [(ti .u32 x), (ti .u32 y), (ti .u32 carry)] (TV.tup [(false, [(T.int .u32 r.1)]), (false, [(T.int .u32 r.2)])]) :=
 qbL [[0], [0]] (by kernel_rfl) (by simp) fun cx hn => qwU K (.c0 x y carry) r h cx hn
open Go.Proofs.Tryz (prog)
inductive qnI where
 | c0 (x : Int) (y : Int)
def qjM : Nat → qnI → Option (Int × Int)
 | 0, _ => none
 | _ + 1, .c0 x y =>
  some ((wU3 (qdG .u64 (wU6 ((wU6 x) * (wU6 y))) (32 : Int))), (wU3 (wU6 ((wU6 x) * (wU6 y)))))
def qs1 (K : Nat) (x : Int) (y : Int) : Option (Int × Int) := qjM K (.c0 x y)
noncomputable def q4Y : Code := qcS prog 111
noncomputable def q7F : qnI → List Fr
 | .c0 .. => [.code q4Y]
def q9A : qnI → St
 | .c0 x y => St.init [(ti .u32 x), (ti .u32 y)]
def qy2 (cx : Cx) (c : qnI) (r : (Int × Int)) : Prop := Wk prog cx (qd8 prog 111 [[0], [0]] (TV.tup [(false, [(T.int .u32 r.1)]), (false, [(T.int .u32 r.2)])])) (q7F c) .normal (q9A c)
abbrev qy3 (K : Nat) : Prop := ∀ c r, qjM K c = some r → ∀ cx : Cx, cx.n = 17 → qy2 cx c r
theorem q9C {K} (_ : qy3 K) {cx} (hn : cx.n = 17) {x y} {r} (h : qjM (K + 1) (.c0 x y) = some r) : qy2 cx (.c0 x y) r := by
 rw [qjM] at h
 have h := oinj h; subst h
 exact zlU (fuel := 62) [rg2, rg6, rgG [oo, oo, oo, oo, oo, oo, oo]] _ hn (by kernel_rfl) aN
theorem qwL : ∀ K : Nat, qy3 K
 | 0, c, r, h => by rw [qjM] at h; cases h
 | K + 1, .c0 .., r, h => fun cx hn => q9C (qwL K) hn h
theorem q3J {K : Nat} {x : Int} {y : Int} {r : (Int × Int)} (h : qs1 K x y = some r) : qc7 prog 111 [(ti .u32 x), (ti .u32 y)] (TV.tup [(false, [(T.int .u32 r.1)]), (false, [(T.int .u32 r.2)])]) :=
 qbL [[0], [0]] (by kernel_rfl) (by simp) fun cx hn => qwL K (.c0 x y) r h cx hn
open Go.Proofs.Tryz (prog)
inductive qsV where
 | c0 (a : (List Int)) (b : (List Int))
 | c1 (r32 : (List Int)) (b : (List Int)) (t33 : (List Int)) (t34 : Int) (t35 : Int)
 | c2 (r32 : (List Int)) (b : (List Int)) (t33 : (List Int)) (t34 : Int) (t35 : Int)
 | c3 (r32 : (List Int)) (b : (List Int)) (i : Int) (x : Int) (carry : Int) (off_row : Nat) (len_row : Nat) (t33 : (List Int)) (t34 : Int) (t35 : Int) (t49 : (List Int)) (t50 : Int) (t51 : Int)
def qcX : Nat → qsV → Option (List Int)
 | 0, _ => none
 | K + 1, .c0 a b =>
  (qc9 K a).bind fun x1 =>
  (qc9 K b).bind fun x3 =>
  bif (decide ((x1.length : Int) = (0 : Int))) then
   some []
  else
   bif (decide ((x3.length : Int) = (0 : Int))) then
    some []
   else
    gd (0 ≤ (wI6 ((x1.length : Int) + (x3.length : Int))) ∧ (wI6 ((x1.length : Int) + (x3.length : Int))) ≤ (wI6 ((x1.length : Int) + (x3.length : Int))) ∧ (4 : Int) * (wI6 ((x1.length : Int) + (x3.length : Int))) ≤ 140737488355328) <|
    qcX K (.c1 (List.replicate (wI6 ((x1.length : Int) + (x3.length : Int))).toNat ((0 : Int) : Int)) x3 x1 (x1.length : Int) (0 : Int))
 | K + 1, .c1 r32 b t33 t34 t35 =>
  bif (decide (t35 < t34)) then
   (gi t33 t35).bind fun x2 =>
   bif (decide (x2 = (0 : Int))) then
    qcX K (.c2 r32 b t33 t34 t35)
   else
    gd (0 ≤ t35 ∧ 0 ≤ (wI6 (t35 + (b.length : Int))) ∧ t35.toNat ≤ (wI6 (t35 + (b.length : Int))).toNat ∧ (wI6 (t35 + (b.length : Int))).toNat ≤ r32.length ∧ (t35.toNat = 0 ∨ t35.toNat < r32.length)) <|
    qcX K (.c3 r32 b t35 x2 (0 : Int) (0 + t35.toNat) ((wI6 (t35 + (b.length : Int))).toNat - t35.toNat) t33 t34 t35 b (b.length : Int) (0 : Int))
  else
   (qc9 K r32).bind fun x2 =>
   some x2
 | K + 1, .c2 r32 b t33 t34 t35 =>
  qcX K (.c1 r32 b t33 t34 (wI6 (t35 + (1 : Int))))
 | K + 1, .c3 r32 b i x carry off_row len_row t33 t34 t35 t49 t50 t51 =>
  bif (decide (t51 < t50)) then
   (gi t49 t51).bind fun x2 =>
   (qs1 K x x2).bind fun x4 =>
   (gio r32 off_row len_row t51).bind fun x6 =>
   (qjB K x4.2 x6 (0 : Int)).bind fun x8 =>
   (qjB K x8.1 carry (0 : Int)).bind fun x10 =>
   (gio r32 off_row len_row t51).bind fun _ =>
   qcX K (.c3 (r32.set (off_row + t51.toNat) x10.1) b i x (wU3 ((wU3 (x4.1 + x8.2)) + x10.2)) off_row len_row t33 t34 t35 t49 t50 (wI6 (t51 + (1 : Int))))
  else
   (gi r32 (wI6 (i + (b.length : Int)))).bind fun _ =>
   qcX K (.c2 (r32.set ((wI6 (i + (b.length : Int))).toNat) carry) b t33 t34 t35)
def qtQ (K : Nat) (a : (List Int)) (b : (List Int)) : Option (List Int) := qcX K (.c0 a b)
noncomputable def qfG : Code := qcS prog 54
noncomputable def ziC : qsV → List Fr
 | .c0 .. => [.code qfG]
 | .c1 .. => [.code (.loop (atC qfG [1,1,1,1,0,1,0,0])), .blk 0, .code (atC qfG [1,1,1,1,1])]
 | .c2 .. => [.code (atC qfG [1,1,1,1,0,1,0,0,1,1,1]), .lp (atC qfG [1,1,1,1,0,1,0,0]), .blk 0, .code (atC qfG [1,1,1,1,1])]
 | .c3 .. => [.code (.loop (atC qfG [1,1,1,1,0,1,0,0,1,1,0,0,1,1,1,1,0,1,0,0])), .blk 2, .code (atC qfG [1,1,1,1,0,1,0,0,1,1,0,0,1,1,1,1,1]), .blk 1, .code (atC qfG [1,1,1,1,0,1,0,0,1,1,1]), .lp (atC qfG [1,1,1,1,0,1,0,0]), .blk 0, .code (atC qfG [1,1,1,1,1])]
def zkX : qsV → St
 | .c0 a b => St.init [(tl 1 a qaF), (tl 1 b qaF)]
 | .c1 r32 b t33 t34 t35 => ⟨[(1, vl 1 b qaF), (5, .c (C.row 32 0 r32.length)), (33, vl 1 t33 qaF), (34, vi .i64 t34), (35, vi .i64 t35)], [(32, .row 143 1 (r32.map qaF) 0)], []⟩
 | .c2 r32 b t33 t34 t35 => ⟨[(1, vl 1 b qaF), (5, .c (C.row 32 0 r32.length)), (33, vl 1 t33 qaF), (34, vi .i64 t34), (35, vi .i64 t35)], [(32, .row 143 1 (r32.map qaF) 0)], []⟩
 | .c3 r32 b i x carry off_row len_row t33 t34 t35 t49 t50 t51 => ⟨[(1, vl 1 b qaF), (5, .c (C.row 32 0 r32.length)), (6, vi .i64 i), (7, vi .u32 x), (8, vi .u32 carry), (9, .c (C.row 32 off_row len_row)), (33, vl 1 t33 qaF), (34, vi .i64 t34), (35, vi .i64 t35), (49, vl 1 t49 qaF), (50, vi .i64 t50), (51, vi .i64 t51)], [(32, .row 143 1 (r32.map qaF) 0)], []⟩
def qsT (cx : Cx) (c : qsV) (r : (List Int)) : Prop := Wk prog cx (qd8 prog 54 [[1]] (tl 1 r qaF)) (ziC c) .normal (zkX c)
abbrev qsU (K : Nat) : Prop := ∀ c r, qcX K c = some r → ∀ cx : Cx, cx.n = 98 → qsT cx c r
theorem zk1 {K} (ih : qsU K) {cx} (hn : cx.n = 98) {a b} {r} (h : qcX (K + 1) (.c0 a b) = some r) : qsT cx (.c0 a b) r := by
 rw [qcX] at h
 obtain ⟨x1, h2, h⟩ := qaU h
 obtain ⟨x3, h4, h⟩ := qaU h
 rcases qa0 h with ⟨h5, h⟩ | ⟨h5, h⟩
 ·have h := oinj h; subst h
  exact wkR [rg1, rgG [oo, opI (.call [[1]] [(tl 1 a qaF)] (tl 1 x1 qaF)), oo, opI (.call [[1]] [(tl 1 b qaF)] (tl 1 x3 qaF)), oo, oo], rgG [oo, opI (.ln (x1.length : Int)), oo, oo, .sb 22 true, oo, oo, oo, oo], bTr, rg1] hn (aC (qa5 h2) <| aC (qa5 h4) <| aC (qdI x1 qaF) <| aC h5 <| aC rt <| aN)
 ·rcases qa0 h with ⟨h6, h⟩ | ⟨h6, h⟩
  ·have h := oinj h; subst h
   exact wkR [rg1, rgG [oo, opI (.call [[1]] [(tl 1 a qaF)] (tl 1 x1 qaF)), oo, opI (.call [[1]] [(tl 1 b qaF)] (tl 1 x3 qaF)), oo, oo], rgG [oo, opI (.ln (x1.length : Int)), oo, oo, .sb 22 false, oo, opI (.ln (x3.length : Int)), oo, oo], bTr, rg1] hn (aC (qa5 h2) <| aC (qa5 h4) <| aC (qdI x1 qaF) <| aC h5 <| aC (qdI x3 qaF) <| aC h6 <| aN)
  ·obtain ⟨h7, h⟩ := qbV h
   exact wkG [rg1, rgG [oo, opI (.call [[1]] [(tl 1 a qaF)] (tl 1 x1 qaF)), oo, opI (.call [[1]] [(tl 1 b qaF)] (tl 1 x3 qaF)), oo, oo], rgG [oo, opI (.ln (x1.length : Int)), oo, oo, .sb 22 false, oo, opI (.ln (x3.length : Int)), oo, oo], bFa, rgG [oo, opI (.ln (x1.length : Int)), oo, opI (.ln (x3.length : Int)), oo, opI (.mk (qaF (0 : Int)) ((List.replicate (wI6 ((x1.length : Int) + (x3.length : Int))).toNat ((0 : Int) : Int)).map qaF)), oo], rgG [oo, opI (.ln (x1.length : Int)), oo], .pre [.rl 5 0 (List.replicate (wI6 ((x1.length : Int) + (x3.length : Int))).toNat ((0 : Int) : Int)).length, .keep [1,5,33,34,35] [32]]] hn (aC (qa5 h2) <| aC (qa5 h4) <| aC (qdI x1 qaF) <| aC h5 <| aC (qdI x3 qaF) <| aC h6 <| aC (qdI x1 qaF) <| aC (qdI x3 qaF) <| aC h7.1 <| aC h7.2.1 <| aC h7.2.2 <| aC (quZ _ _ _ : List.replicate (wI6 ((x1.length : Int) + (x3.length : Int))).toNat (qaF (0 : Int)) = (List.replicate (wI6 ((x1.length : Int) + (x3.length : Int))).toNat ((0 : Int) : Int)).map qaF) <| aC (qdI x1 qaF) <| aC r0 <| aC (by simp : (wI6 ((x1.length : Int) + (x3.length : Int))).toNat = (List.replicate (wI6 ((x1.length : Int) + (x3.length : Int))).toNat ((0 : Int) : Int)).length) <| aN) (ih _ _ h cx hn)
theorem zk0 {K} (ih : qsU K) {cx} (hn : cx.n = 98) {r32 b t33 t34 t35} {r} (h : qcX (K + 1) (.c1 r32 b t33 t34 t35) = some r) : qsT cx (.c1 r32 b t33 t34 t35) r := by
 rw [qcX] at h
 rcases qa0 h with ⟨h1, h⟩ | ⟨h1, h⟩
 ·obtain ⟨x2, h3, h⟩ := qaU h
  rcases qa0 h with ⟨h4, h⟩ | ⟨h4, h⟩
  ·exact wkG [.go, rg1, bTr, rgG [oo, opI (.ix (qaF x2)), oo, oo, oo], rg2, bTr, .pre [.rl 5 0 r32.length, .keep [1,5,33,34,35] [32]]] hn (aC h1 <| aC (qb5 h3) <| aC (qfP qaF h3) <| aC h4 <| aC r0 <| aC (lq r32) <| aN) (ih _ _ h cx hn)
  ·obtain ⟨h5, h⟩ := qbV h
   exact wkG [.go, rg1, bTr, rgG [oo, opI (.ix (qaF x2)), oo, oo, oo], rg2, bFa, rg1, rgG [oo, oo, oo, oo, opI (.ln (b.length : Int)), oo, opI (.slR t35.toNat ((wI6 (t35 + (b.length : Int))).toNat) (0 + t35.toNat) ((wI6 (t35 + (b.length : Int))).toNat - t35.toNat)), oo], rgG [oo, opI (.ln (b.length : Int)), oo], .pre [.rl 5 0 r32.length, .keep [1,5,6,7,8,9,33,34,35,49,50,51] [32]]] hn (aC h1 <| aC (qb5 h3) <| aC (qfP qaF h3) <| aC h4 <| aC (qdI b qaF) <| aC (⟨h5.1, rfl⟩ : 0 ≤ t35 ∧ t35.toNat = t35.toNat) <| aC (⟨h5.2.1, rfl⟩ : 0 ≤ (wI6 (t35 + (b.length : Int))) ∧ (wI6 (t35 + (b.length : Int))).toNat = (wI6 (t35 + (b.length : Int))).toNat) <| aC h5.2.2.1 <| aC h5.2.2.2.1 <| aC h5.2.2.2.2 <| aC (rfl : 0 + t35.toNat = (0 + t35.toNat)) <| aC (rfl : (wI6 (t35 + (b.length : Int))).toNat - t35.toNat = ((wI6 (t35 + (b.length : Int))).toNat - t35.toNat)) <| aC (qdI b qaF) <| aC r0 <| aC (lq r32) <| aN) (ih _ _ h cx hn)
 ·obtain ⟨x2, h3, h⟩ := qaU h
  have h := oinj h; subst h
  exact wkR [.go, rg1, bFa, rgG [oo, .snap 96 (max 0 (0 + r32.length)) (r32.map qaF), opI (.call [[1]] [(tl 1 r32 qaF)] (tl 1 x2 qaF)), oo]] hn (aC h1 <| aC (qeH _ _ _ (by simp) : ((r32.map qaF).drop 0).take r32.length = r32.map qaF) <| aC (rfl : (max 0 (0 + r32.length)) = (max 0 (0 + r32.length))) <| aC (qa5 h3) <| aN)
theorem zkZ {K} (ih : qsU K) {cx} (hn : cx.n = 98) {r32 b t33 t34 t35} {r} (h : qcX (K + 1) (.c2 r32 b t33 t34 t35) = some r) : qsT cx (.c2 r32 b t33 t34 t35) r := by
 rw [qcX] at h
 exact wkG [rg2, .pre [.rl 5 0 r32.length, .keep [1,5,33,34,35] [32]]] hn (aC r0 <| aC (lq r32) <| aN) (ih _ _ h cx hn)
theorem zkY {K} (ih : qsU K) {cx} (hn : cx.n = 98) {r32 b i x carry off_row len_row t33 t34 t35 t49 t50 t51} {r} (h : qcX (K + 1) (.c3 r32 b i x carry off_row len_row t33 t34 t35 t49 t50 t51) = some r) : qsT cx (.c3 r32 b i x carry off_row len_row t33 t34 t35 t49 t50 t51) r := by
 rw [qcX] at h
 rcases qa0 h with ⟨h1, h⟩ | ⟨h1, h⟩
 ·obtain ⟨x2, h3, h⟩ := qaU h
  obtain ⟨x4, h5, h⟩ := qaU h
  obtain ⟨x6, h7, h⟩ := qaU h
  obtain ⟨x8, h9, h⟩ := qaU h
  obtain ⟨x10, h11, h⟩ := qaU h
  obtain ⟨x12, h13, h⟩ := qaU h
  exact wkG [.go, rg1, bTr, rgG [oo, opI (.ix (qaF x2)), oo, oo, oo], rgG [oo, oo, opI (.call [[0], [0]] [(ti .u32 x), (ti .u32 x2)] (TV.tup [(false, [(T.int .u32 x4.1)]), (false, [(T.int .u32 x4.2)])])), oo, oo, oo, oo, oo], rgG [oo, oo, oo, .op .ir, opI (.ld (qaF x6)), opI (.call [[0], [0], [0]] [(ti .u32 x4.2), (ti .u32 x6), (TV.c (T.int .u32 (0 : Int)))] (TV.tup [(false, [(T.int .u32 x8.1)]), (false, [(T.int .u32 x8.2)])])), oo, oo, oo, oo, oo], rg4, rgG [oo, oo, opI (.call [[0], [0], [0]] [(ti .u32 x8.1), (ti .u32 carry), (TV.c (T.int .u32 (0 : Int)))] (TV.tup [(false, [(T.int .u32 x10.1)]), (false, [(T.int .u32 x10.2)])])), oo, oo, oo, oo, oo], rgG [oo, oo, oo, oo, oo, oo, .op .ir, opI (.st (qaF x12) ((r32.set (off_row + t51.toNat) x10.1).map qaF)), oo], rg2, .pre [.rl 5 0 (r32.set (off_row + t51.toNat) x10.1).length, .keep [1,5,6,7,8,9,33,34,35,49,50,51] [32]]] hn (aC h1 <| aC (qb5 h3) <| aC (qfP qaF h3) <| aC (q3J h5) <| aC (zw8 h7) <| aC (zw9 h7) <| aC (zxA qaF h7) <| aC (qjA h9) <| aC (qjA h11) <| aC (zw8 h13) <| aC (zw9 h13) <| aC (zxA qaF h13) <| aC (zuZ _ _ x10.1 _ : (r32.map qaF).set (off_row + t51.toNat) (qdH (qaF x12) 0 [(T.int .u32 x10.1)]) = (r32.set (off_row + t51.toNat) x10.1).map qaF) <| aC (Nat.zero_le _ : 0 ≤ (off_row + t51.toNat)) <| aC r0 <| aC (by simp : r32.length = (r32.set (off_row + t51.toNat) x10.1).length) <| aN) (ih _ _ h cx hn)
 ·obtain ⟨x2, h3, h⟩ := qaU h
  exact wkG [.go, rg1, bFa, rgG [oo, oo, oo, opI (.ln (b.length : Int)), oo, oo, .op .ir, opI (.st (qaF x2) ((r32.set ((wI6 (i + (b.length : Int))).toNat) carry).map qaF))], .pre [.rl 5 0 (r32.set ((wI6 (i + (b.length : Int))).toNat) carry).length, .keep [1,5,33,34,35] [32]]] hn (aC h1 <| aC (qdI b qaF) <| aC (qb5 h3) <| aC (qc1 h3 (by simp) : (wI6 (i + (b.length : Int))) < ((r32.length : Nat) : Int)) <| aC (qc2 qaF h3 : (r32.map qaF)[(0 + (wI6 (i + (b.length : Int))).toNat)]? = some (qaF x2)) <| aC (qe8 _ _ carry _ : (r32.map qaF).set (0 + (wI6 (i + (b.length : Int))).toNat) (qdH (qaF x2) 0 [(T.int .u32 carry)]) = (r32.set ((wI6 (i + (b.length : Int))).toNat) carry).map qaF) <| aC (Nat.zero_le _ : 0 ≤ (0 + (wI6 (i + (b.length : Int))).toNat)) <| aC r0 <| aC (by simp : r32.length = (r32.set ((wI6 (i + (b.length : Int))).toNat) carry).length) <| aN) (ih _ _ h cx hn)
theorem qo8 : ∀ K : Nat, qsU K
 | 0, c, r, h => by rw [qcX] at h; cases h
 | K + 1, .c0 .., r, h => fun cx hn => zk1 (qo8 K) hn h
 | K + 1, .c1 .., r, h => fun cx hn => zk0 (qo8 K) hn h
 | K + 1, .c2 .., r, h => fun cx hn => zkZ (qo8 K) hn h
 | K + 1, .c3 .., r, h => fun cx hn => zkY (qo8 K) hn h
theorem qtP {K : Nat} {a : (List Int)} {b : (List Int)} {r : (List Int)} (h : qtQ K a b = some r) : qc7 prog 54 [(tl 1 a qaF), (tl 1 b qaF)] (tl 1 r qaF) :=
 qbL [[1]] (by kernel_rfl) (by simp) fun cx hn => qo8 K (.c0 a b) r h cx hn
theorem qoT {x y c : Int} (hx : 0 ≤ x ∧ x < 4294967296) (hy : 0 ≤ y ∧ y < 4294967296) (hc : 0 ≤ c ∧ c < 4294967296) :
    Ev (fun K => qjB K x y c) ((x + y + c) % 4294967296, (x + y + c) / 4294967296) := by
  refine qaW ?_
  simp only [qjB, qjP, q4M, qrY, zgE]
  refine qe4 (qa6 _) ?_
  ext
  · show _ = _; simp only; omega
  · show _ = _; simp only; omega
theorem zb7 {x y : Int} (hx : 0 ≤ x ∧ x < 4294967296) (hy : 0 ≤ y ∧ y < 4294967296) : 0 ≤ x * y ∧ x * y ≤ 18446744065119617025 := by
  refine ⟨Int.mul_nonneg hx.1 hy.1, ?_⟩
  have := Int.mul_le_mul (show x ≤ 4294967295 by omega) (show y ≤ 4294967295 by omega) hy.1 (by omega)
  simpa using this
theorem q9B {x y : Int} (hx : 0 ≤ x ∧ x < 4294967296) (hy : 0 ≤ y ∧ y < 4294967296) :
    Ev (fun K => qs1 K x y) (x * y / 4294967296, x * y % 4294967296) := by
  refine qaW ?_
  simp only [qs1, qjM, q4M, qrY, zgE]
  have := zb7 hx hy
  refine qe4 (qa6 _) ?_
  rw [Int.emod_eq_of_lt hx.1 (by omega), Int.emod_eq_of_lt hy.1 (by omega)]
  ext
  · show _ = _; simp only; omega
  · show _ = _; simp only; omega
theorem zvE {x y r c : Int} (hx : 0 ≤ x ∧ x < 4294967296) (hy : 0 ≤ y ∧ y < 4294967296) (hr : 0 ≤ r ∧ r < 4294967296) (hc : 0 ≤ c ∧ c < 4294967296) :
    (x * y % 4294967296 + r + 0) % 4294967296 + c + 0 < 4294967296 * 2 ∧
    ∃ n d : Int, ((x * y % 4294967296 + r + 0) % 4294967296 + c + 0) % 4294967296 = n ∧ ((x * y / 4294967296 + (x * y % 4294967296 + r + 0) / 4294967296) % 4294967296 + ((x * y % 4294967296 + r + 0) % 4294967296 + c + 0) / 4294967296) % 4294967296 = d ∧
    n + 4294967296 * d = x * y + r + c ∧ (0 ≤ n ∧ n < 4294967296) ∧ (0 ≤ d ∧ d < 4294967296) := by
  have := zb7 hx hy
  generalize x * y = P at *
  refine ⟨by omega, _, _, rfl, rfl, ?_, by omega, by omega⟩
  omega
theorem q59 {b t33 : List Int} {t34 : Int} {i : Nat} {x : Int} {r : List Int} (hb : Dig b) (hx : 0 ≤ x ∧ x < 4294967296) (R : List Int) (V : Int) (hR : b.length < 2305843009213693952) (hi : i < 2305843009213693952)
    (hend : ∀ (r' : List Int), Dig r' → r'.length = R.length → val r' = V + x * (4294967296 ^ i * val b) → (∀ j, i + b.length < j → r'[j]? = R[j]?) → Ev (fun K => qcX K (.c2 r' b t33 t34 i)) r) :
    ∀ (m k : Nat) (c : Int) (q : List Int), k + m = b.length → (0 ≤ c ∧ c < 4294967296) → Dig q → q.length = R.length → val q + 4294967296 ^ (i + k) * c = V + x * (4294967296 ^ i * val (b.take k)) → (∀ j, i + k ≤ j → q[j]? = R[j]?) → i + b.length < R.length → R[i + b.length]? = some 0 →
      Ev (fun K => qcX K (.c3 q b i x c i b.length t33 t34 i b b.length k)) r
  | 0, k, c, q, hk, hc, hq, hl, hv, hu, hlt, hz => by
    refine qaW ?_
    simp only [qcX]
    refine ev_f (by simp; omega) ?_
    rw [qdF (by omega), show (i : Int) + (b.length : Int) = ((i + b.length : Nat) : Int) by omega]
    refine qb8 (qfS (by omega)) ?_
    rw [Int.toNat_natCast]
    have hk' : k = b.length := by omega
    subst hk'
    refine hend _ (qqI hq _ hc) (by simpa using hl) ?_ fun j hj => ?_
    · rw [qrK (by omega)]
      have h0 : q[i + b.length]'(by omega) = 0 := by
        have := hu (i + b.length) (Nat.le_refl _)
        rw [hz, List.getElem?_eq_getElem (by omega)] at this
        exact Option.some.inj this
      rw [h0, Int.sub_zero, hv, List.take_length]
    · rw [List.getElem?_set_ne (by omega)]
      exact hu j (by omega)
  | m + 1, k, c, q, hk, hc, hq, hl, hv, hu, hlt, hz => by
    refine qaW ?_
    simp only [qcX]
    refine ev_t (by simp; omega) ?_
    have hkb : k < b.length := by omega
    have hik : i + k < q.length := by omega
    have hy := qgO hb hkb
    have hr := qgO hq hik
    refine qb8 (qfS hkb) (qaR (q9B hx hy) (qb8 (ztU hkb (List.getElem?_eq_getElem hik)) ?_))
    refine qaR (qoT ⟨by simp only; omega, by simp only; omega⟩ hr (by decide)) ?_
    refine qaR (qoT ⟨by simp only; omega, by simp only; omega⟩ hc (by decide)) ?_
    refine qb8 (ztU hkb (List.getElem?_eq_getElem hik)) ?_
    simp only [q4M]
    obtain ⟨_, n, d, e1, e2, e3, hn, hd⟩ := zvE hx hy hr hc
    rw [e1, e2, qdF (by omega), show (k : Int) + 1 = ((k + 1 : Nat) : Int) by omega, Int.toNat_natCast]
    refine q59 hb hx R V hR hi hend m (k + 1) d _ (by omega) hd (qqI hq _ hn) (by simpa using hl) ?_ (fun j hj => ?_) hlt hz
    · rw [qrK hik, List.take_add_one, List.getElem?_eq_getElem hkb]
      simp only [Option.toList_some]
      rw [qmE, List.length_take, Nat.min_eq_left (by omega), ← Nat.add_assoc, Int.pow_succ]
      simp only [qqT, q6R, Int.mul_zero, Int.add_zero]
      rw [Int.pow_add] at *
      generalize (4294967296 : Int) ^ i = A at *
      generalize (4294967296 : Int) ^ k = C at *
      grind
    · rw [List.getElem?_set_ne (by omega)]
      exact hu j (by omega)
theorem q6A {a b : List Int} (ha : Dig a) (hb : Dig b) (hR : a.length + b.length < 2305843009213693952) (L : Nat) (hL : L = a.length + b.length) :
    ∀ (m i : Nat) (q : List Int), i + m = a.length → Dig q → q.length = L → val q = val (a.take i) * val b → (∀ j, i + b.length ≤ j → j < L → q[j]? = some 0) →
      Ev (fun K => qcX K (.c1 q b a a.length i)) (digs (val a * val b))
  | 0, i, q, hi, hq, hl, hv, hz => by
    refine qaW ?_
    simp only [qcX]
    refine ev_f (by simp; omega) ?_
    have := qc3 hq (by omega)
    rw [hv, List.take_of_length_le (by omega)] at this
    exact qaR this (qa6 _)
  | m + 1, i, q, hi, hq, hl, hv, hz => by
    refine qaW ?_
    simp only [qcX]
    have hia : i < a.length := by omega
    refine ev_t (by simp; omega) (qb8 (qfS hia) ?_)
    have hx := qgO ha hia
    have e : val (a.take (i + 1)) = val (a.take i) + 4294967296 ^ i * a[i] := by
      rw [List.take_add_one, List.getElem?_eq_getElem hia, Option.toList_some, qmE, List.length_take, Nat.min_eq_left (by omega)]
      simp
    have next : ∀ r' : List Int, Dig r' → r'.length = L → val r' = val (a.take (i + 1)) * val b → (∀ j, i + b.length < j → r'[j]? = q[j]?) → Ev (fun K => qcX K (.c2 r' b a a.length i)) (digs (val a * val b)) := by
      intro r' h1 h2 h3 h4
      refine qaW ?_
      simp only [qcX]
      rw [qdF (by omega), show (i : Int) + 1 = ((i + 1 : Nat) : Int) by omega]
      exact q6A ha hb hR L hL m (i + 1) r' (by omega) h1 h2 h3 fun j hj hjl => by rw [h4 j (by omega)]; exact hz j (by omega) hjl
    by_cases h0 : a[i] = 0
    · refine ev_t (by simpa using h0) (next q hq hl ?_ fun _ _ => rfl)
      rw [hv, e, h0]; simp
    · refine ev_f (by simpa using h0) (qgA ?_ ?_)
      · rw [qdF (by omega)]; omega
      · have e1 : 0 + (i : Int).toNat = i := by omega
        have e2 : (wI6 ((i : Int) + (b.length : Int))).toNat - (i : Int).toNat = b.length := by rw [qdF (by omega)]; omega
        rw [e1, e2]
        refine q59 (i := i) hb hx q (val q) (by omega) (by omega) ?_ b.length 0 0 q (by omega) (by decide) hq rfl (by simp) (fun j _ => rfl) (by omega) (hz _ (by omega) (by omega))
        intro r' h1 h2 h3 h4
        refine next r' h1 (by omega) ?_ h4
        rw [h3, hv, e]
        grind
theorem qx8 {a b : List Int} (ha : Dig a) (hb : Dig b) (hs : a.length + b.length ≤ 34359738368) : Ev (fun K => qtQ K a b) (digs (val a * val b)) := by
  refine qaW ?_
  simp only [qtQ, qcX]
  have va := qdP (qb1 ha)
  have vb := qdP (qb1 hb)
  have la := qe1 ha
  have lb := qe1 hb
  refine qaR (qc3 ha (by omega)) (qaR (qc3 hb (by omega)) ?_)
  by_cases h1 : digs (val a) = []
  · refine ev_t (by simp [h1]) (qe4 (qa6 _) ?_)
    rw [(qkC (qb1 ha)).1 h1, Int.zero_mul, qhR]
  · refine ev_f (by simpa using h1) ?_
    by_cases h2 : digs (val b) = []
    · refine ev_t (by simp [h2]) (qe4 (qa6 _) ?_)
      rw [(qkC (qb1 hb)).1 h2, Int.mul_zero, qhR]
    · refine ev_f (by simpa using h2) ?_
      rw [qdF (by omega)]
      refine qgA (by omega) ?_
      have := q6A (qdW (val a)) (qdW (val b)) (by omega) _ rfl (digs (val a)).length 0 (List.replicate ((digs (val a)).length + (digs (val b)).length) 0) (by omega) (q7Y (by decide)) (by simp) (by rw [qzR]; simp) (fun j _ hj => by rw [List.getElem?_replicate, if_pos hj])
      rw [va, vb] at this
      rw [show (((digs (val a)).length : Int) + ((digs (val b)).length : Int)).toNat = (digs (val a)).length + (digs (val b)).length by omega]
      exact this
open Go.Proofs.Tryz (prog)
inductive qrE where
 | c0 (neg : Bool) (abs : (List Int))
def qmX : Nat → qrE → Option qaE
 | 0, _ => none
 | _ + 1, .c0 neg abs =>
  bif neg then
   some (qaE.mk (decide ((0 : Int) < (abs.length : Int))) abs)
  else
   some (qaE.mk false abs)
def qkB (K : Nat) (neg : Bool) (abs : (List Int)) : Option qaE := qmX K (.c0 neg abs)
noncomputable def zcX : Code := qcS prog 47
noncomputable def zfN : qrE → List Fr
 | .c0 .. => [.code zcX]
def ziU : qrE → St
 | .c0 neg abs => St.init [(TV.c (T.bool neg)), (tl 1 abs qaF)]
def q6F (cx : Cx) (c : qrE) (r : qaE) : Prop := Wk prog cx (qd8 prog 47 [[0,1]] (TV.agg (qaK r))) (zfN c) .normal (ziU c)
abbrev q6G (K : Nat) : Prop := ∀ c r, qmX K c = some r → ∀ cx : Cx, cx.n = 13 → q6F cx c r
theorem ziV {K} (_ : q6G K) {cx} (hn : cx.n = 13) {neg abs} {r} (h : qmX (K + 1) (.c0 neg abs) = some r) : q6F cx (.c0 neg abs) r := by
 rw [qmX] at h
 rcases qa0 h with ⟨h1, h⟩ | ⟨h1, h⟩
 ·have h := oinj h; subst h
  exact wkR [rg1, rgG [oo, oo, .sb 6 true, oo, opI (.ln (abs.length : Int)), oo, oo, oo, oo, oo]] hn (aC h1 <| aC (qdI abs qaF) <| aN)
 ·have h := oinj h; subst h
  exact wkR [rg1, rgG [oo, oo, .sb 6 false, oo, oo, oo, oo, oo, oo, oo]] hn (aC h1 <| aN)
theorem q1N : ∀ K : Nat, q6G K
 | 0, c, r, h => by rw [qmX] at h; cases h
 | K + 1, .c0 .., r, h => fun cx hn => ziV (q1N K) hn h
theorem qhP {K : Nat} {neg : Bool} {abs : (List Int)} {r : qaE} (h : qkB K neg abs = some r) : qc7 prog 47 [(TV.c (T.bool neg)), (tl 1 abs qaF)] (TV.agg (qaK r)) :=
 qbL [[0,1]] (by kernel_rfl) (by simp) fun cx hn => q1N K (.c0 neg abs) r h cx hn
open Go.Proofs.Tryz (prog)
inductive qrG where
 | c0 (neg : Bool) (a : (List Int))
def qmZ : Nat → qrG → Option qaE
 | 0, _ => none
 | K + 1, .c0 neg a =>
  (qgN K a).bind fun x1 =>
  (qkB K neg x1).bind fun x3 =>
  some x3
def qjD (K : Nat) (neg : Bool) (a : (List Int)) : Option qaE := qmZ K (.c0 neg a)
noncomputable def zc1 : Code := qcS prog 106
noncomputable def zfR : qrG → List Fr
 | .c0 .. => [.code zc1]
def zi1 : qrG → St
 | .c0 neg a => St.init [(TV.c (T.bool neg)), (tl 1 a qaF)]
def q6K (cx : Cx) (c : qrG) (r : qaE) : Prop := Wk prog cx (qd8 prog 106 [[0,1]] (TV.agg (qaK r))) (zfR c) .normal (zi1 c)
abbrev q6L (K : Nat) : Prop := ∀ c r, qmZ K c = some r → ∀ cx : Cx, cx.n = 9 → q6K cx c r
theorem zi2 {K} (_ : q6L K) {cx} (hn : cx.n = 9) {neg a} {r} (h : qmZ (K + 1) (.c0 neg a) = some r) : q6K cx (.c0 neg a) r := by
 rw [qmZ] at h
 obtain ⟨x1, h2, h⟩ := qaU h
 obtain ⟨x3, h4, h⟩ := qaU h
 have h := oinj h; subst h
 exact wkR [rg1, rgG [oo, oo, opI (.call [[1]] [(tl 1 a qaF)] (tl 1 x1 qaF)), opI (.call [[0], [1]] [(TV.c (T.bool neg)), (tl 1 x1 qaF)] (TV.agg (qaK x3))), oo]] hn (aC (qdD h2) <| aC (qhP h4) <| aN)
theorem q1R : ∀ K : Nat, q6L K
 | 0, c, r, h => by rw [qmZ] at h; cases h
 | K + 1, .c0 .., r, h => fun cx hn => zi2 (q1R K) hn h
theorem qfO {K : Nat} {neg : Bool} {a : (List Int)} {r : qaE} (h : qjD K neg a = some r) : qc7 prog 106 [(TV.c (T.bool neg)), (tl 1 a qaF)] (TV.agg (qaK r)) :=
 qbL [[0,1]] (by kernel_rfl) (by simp) fun cx hn => q1R K (.c0 neg a) r h cx hn
open Go.Proofs.Tryz (prog)
inductive qt9 where
 | c0 (n : Int)
def qp2 : Nat → qt9 → Option qaE
 | 0, _ => none
 | K + 1, .c0 n =>
  bif (decide (n < (0 : Int))) then
   (qp1 K (wU6 (0 - (wU6 n)))).bind fun x2 =>
   (qkB K true x2).bind fun x4 =>
   some x4
  else
   (qp1 K (wU6 n)).bind fun x2 =>
   (qkB K false x2).bind fun x4 =>
   some x4
def qlQ (K : Nat) (n : Int) : Option qaE := qp2 K (.c0 n)
noncomputable def ziY : Code := qcS prog 9
noncomputable def zlA : qt9 → List Fr
 | .c0 .. => [.code ziY]
def znD : qt9 → St
 | .c0 n => St.init [(ti .i64 n)]
def zdS (cx : Cx) (c : qt9) (r : qaE) : Prop := Wk prog cx (qd8 prog 9 [[0,1]] (TV.agg (qaK r))) (zlA c) .normal (znD c)
abbrev zdT (K : Nat) : Prop := ∀ c r, qp2 K c = some r → ∀ cx : Cx, cx.n = 14 → zdS cx c r
theorem znE {K} (_ : zdT K) {cx} (hn : cx.n = 14) {n} {r} (h : qp2 (K + 1) (.c0 n) = some r) : zdS cx (.c0 n) r := by
 rw [qp2] at h
 rcases qa0 h with ⟨h1, h⟩ | ⟨h1, h⟩
 ·obtain ⟨x2, h3, h⟩ := qaU h
  obtain ⟨x4, h5, h⟩ := qaU h
  have h := oinj h; subst h
  exact wkR [rg1, rg2, bTr, rgG [oo, oo, oo, opI (.call [[0]] [(TV.c (T.int .u64 (wU6 (0 - (wU6 n)))))] (tl 1 x2 qaF)), opI (.call [[0], [1]] [(TV.c (T.bool true)), (tl 1 x2 qaF)] (TV.agg (qaK x4))), oo]] hn (aC h1 <| aC (qlO h3) <| aC (qhP h5) <| aN)
 ·obtain ⟨x2, h3, h⟩ := qaU h
  obtain ⟨x4, h5, h⟩ := qaU h
  have h := oinj h; subst h
  exact wkR [rg1, rg2, bFa, rgG [oo, oo, opI (.call [[0]] [(TV.c (T.int .u64 (wU6 n)))] (tl 1 x2 qaF)), opI (.call [[0], [1]] [(TV.c (T.bool false)), (tl 1 x2 qaF)] (TV.agg (qaK x4))), oo]] hn (aC h1 <| aC (qlO h3) <| aC (qhP h5) <| aN)
theorem q6J : ∀ K : Nat, zdT K
 | 0, c, r, h => by rw [qp2] at h; cases h
 | K + 1, .c0 .., r, h => fun cx hn => znE (q6J K) hn h
theorem qgR {K : Nat} {n : Int} {r : qaE} (h : qlQ K n = some r) : qc7 prog 9 [(ti .i64 n)] (TV.agg (qaK r)) :=
 qbL [[0,1]] (by kernel_rfl) (by simp) fun cx hn => q6J K (.c0 n) r h cx hn
open Go.Proofs.Tryz (prog)
inductive qrF where
 | c0 (a : qaE)
def qmY : Nat → qrF → Option Int
 | 0, _ => none
 | K + 1, .c0 a =>
  (qi6 K a.Abs).bind fun x1 =>
  bif x1 then
   some (0 : Int)
  else
   bif a.Neg then
    some (-1 : Int)
   else
    some (1 : Int)
def qh4 (K : Nat) (a : qaE) : Option Int := qmY K (.c0 a)
noncomputable def zcY : Code := qcS prog 101
noncomputable def zfO : qrF → List Fr
 | .c0 .. => [.code zcY]
def ziW : qrF → St
 | .c0 a => St.init [(TV.agg (qaK a))]
def q6H (cx : Cx) (c : qrF) (r : Int) : Prop := Wk prog cx (qd8 prog 101 [[0]] (ti .i64 r)) (zfO c) .normal (ziW c)
abbrev q6I (K : Nat) : Prop := ∀ c r, qmY K c = some r → ∀ cx : Cx, cx.n = 10 → q6H cx c r
theorem ziX {K} (_ : q6I K) {cx} (hn : cx.n = 10) {a} {r} (h : qmY (K + 1) (.c0 a) = some r) : q6H cx (.c0 a) r := by
 rw [qmY] at h
 obtain ⟨x1, h2, h⟩ := qaU h
 rcases qa0 h with ⟨h3, h⟩ | ⟨h3, h⟩
 ·have h := oinj h; subst h
  exact wkR [rg2, rgG [oo, oo, opI (.call [[1]] [(TV.c (T.sl 1 (a.Abs.map qaF)))] (TV.c (T.bool x1))), oo], bTr, rg1] hn (aC (qdV h2) <| aC h3 <| aN)
 ·rcases qa0 h with ⟨h4, h⟩ | ⟨h4, h⟩
  ·have h := oinj h; subst h
   exact wkR [rg2, rgG [oo, oo, opI (.call [[1]] [(TV.c (T.sl 1 (a.Abs.map qaF)))] (TV.c (T.bool x1))), oo], bFa, rg3, bTr, rg1] hn (aC (qdV h2) <| aC h3 <| aC h4 <| aN)
  ·have h := oinj h; subst h
   exact wkR [rg2, rgG [oo, oo, opI (.call [[1]] [(TV.c (T.sl 1 (a.Abs.map qaF)))] (TV.c (T.bool x1))), oo], bFa, rg3, bFa, rg1] hn (aC (qdV h2) <| aC h3 <| aC h4 <| aN)
theorem q1O : ∀ K : Nat, q6I K
 | 0, c, r, h => by rw [qmY] at h; cases h
 | K + 1, .c0 .., r, h => fun cx hn => ziX (q1O K) hn h
theorem qcF {K : Nat} {a : qaE} {r : Int} (h : qh4 K a = some r) : qc7 prog 101 [(TV.agg (qaK a))] (ti .i64 r) :=
 qbL [[0]] (by kernel_rfl) (by simp) fun cx hn => q1O K (.c0 a) r h cx hn
open Go.Proofs.Tryz (prog)
inductive qs5 where
 | c0 (a : qaE) (b : qaE)
def qn6 : Nat → qs5 → Option Int
 | 0, _ => none
 | K + 1, .c0 a b =>
  (qh4 K a).bind fun x1 =>
  (qh4 K b).bind fun x3 =>
  bif (decide (x3 < x1)) then
   some (1 : Int)
  else
   bif (decide (x1 < x3)) then
    some (-1 : Int)
   else
    bif (decide (x1 < (0 : Int))) then
     (qrR K b.Abs a.Abs).bind fun x8 =>
     some x8
    else
     (qrR K a.Abs b.Abs).bind fun x8 =>
     some x8
def q0B (K : Nat) (a : qaE) (b : qaE) : Option Int := qn6 K (.c0 a b)
noncomputable def zfS : Code := qcS prog 41
noncomputable def zi3 : qs5 → List Fr
 | .c0 .. => [.code zfS]
def zlG : qs5 → St
 | .c0 a b => St.init [(TV.agg (qaK a)), (TV.agg (qaK b))]
def q99 (cx : Cx) (c : qs5) (r : Int) : Prop := Wk prog cx (qd8 prog 41 [[0]] (ti .i64 r)) (zi3 c) .normal (zlG c)
abbrev zaA (K : Nat) : Prop := ∀ c r, qn6 K c = some r → ∀ cx : Cx, cx.n = 32 → q99 cx c r
theorem zlI {K} (_ : zaA K) {cx} (hn : cx.n = 32) {a b} {r} (h : qn6 (K + 1) (.c0 a b) = some r) : q99 cx (.c0 a b) r := by
 rw [qn6] at h
 obtain ⟨x1, h2, h⟩ := qaU h
 obtain ⟨x3, h4, h⟩ := qaU h
 rcases qa0 h with ⟨h5, h⟩ | ⟨h5, h⟩
 ·have h := oinj h; subst h
  exact wkR [rg3, .draw [.p, (.call [[0,1]] [(TV.agg (qaK a))] (ti .i64 x1)), .p] [opI (.call [[0,1]] [(TV.agg (qaK b))] (ti .i64 x3)), .op .p, .op .p], rg4, bTr, rg1] hn (aC (qcF h2) <| aC (qcF h4) <| aC h5 <| aN)
 ·rcases qa0 h with ⟨h6, h⟩ | ⟨h6, h⟩
  ·have h := oinj h; subst h
   exact wkR [rg3, .draw [.p, (.call [[0,1]] [(TV.agg (qaK a))] (ti .i64 x1)), .p] [opI (.call [[0,1]] [(TV.agg (qaK b))] (ti .i64 x3)), .op .p, .op .p], rg4, bFa, rg4, bTr, rg1] hn (aC (qcF h2) <| aC (qcF h4) <| aC h5 <| aC h6 <| aN)
  ·rcases qa0 h with ⟨h7, h⟩ | ⟨h7, h⟩
   ·obtain ⟨x8, h9, h⟩ := qaU h
    have h := oinj h; subst h
    exact wkR [rg3, .draw [.p, (.call [[0,1]] [(TV.agg (qaK a))] (ti .i64 x1)), .p] [opI (.call [[0,1]] [(TV.agg (qaK b))] (ti .i64 x3)), .op .p, .op .p], rg4, bFa, rg4, bFa, rg3, bTr, rgG [oo, oo, oo, oo, opI (.call [[1], [1]] [(TV.c (T.sl 1 (b.Abs.map qaF))), (TV.c (T.sl 1 (a.Abs.map qaF)))] (ti .i64 x8)), oo]] hn (aC (qcF h2) <| aC (qcF h4) <| aC h5 <| aC h6 <| aC h7 <| aC (qg1 h9) <| aN)
   ·obtain ⟨x8, h9, h⟩ := qaU h
    have h := oinj h; subst h
    exact wkR [rg3, .draw [.p, (.call [[0,1]] [(TV.agg (qaK a))] (ti .i64 x1)), .p] [opI (.call [[0,1]] [(TV.agg (qaK b))] (ti .i64 x3)), .op .p, .op .p], rg4, bFa, rg4, bFa, rg3, bFa, rgG [oo, oo, oo, oo, opI (.call [[1], [1]] [(TV.c (T.sl 1 (a.Abs.map qaF))), (TV.c (T.sl 1 (b.Abs.map qaF)))] (ti .i64 x8)), oo]] hn (aC (qcF h2) <| aC (qcF h4) <| aC h5 <| aC h6 <| aC h7 <| aC (qg1 h9) <| aN)
theorem q3V : ∀ K : Nat, zaA K
 | 0, c, r, h => by rw [qn6] at h; cases h
 | K + 1, .c0 .., r, h => fun cx hn => zlI (q3V K) hn h
theorem zc2 {K : Nat} {a : qaE} {b : qaE} {r : Int} (h : q0B K a b = some r) : qc7 prog 41 [(TV.agg (qaK a)), (TV.agg (qaK b))] (ti .i64 r) :=
 qbL [[0]] (by kernel_rfl) (by simp) fun cx hn => q3V K (.c0 a b) r h cx hn
open Go.Proofs.Tryz (prog)
inductive qs4 where
 | c0 (a : qaE) (b : qaE)
def qn4 : Nat → qs4 → Option qaE
 | 0, _ => none
 | K + 1, .c0 a b =>
  (qtQ K a.Abs b.Abs).bind fun x1 =>
  (qkB K (!(a.Neg == b.Neg)) x1).bind fun x3 =>
  some x3
def qnS (K : Nat) (a : qaE) (b : qaE) : Option qaE := qn4 K (.c0 a b)
noncomputable def zfQ : Code := qcS prog 34
noncomputable def zi0 : qs4 → List Fr
 | .c0 .. => [.code zfQ]
def zlE : qs4 → St
 | .c0 a b => St.init [(TV.agg (qaK a)), (TV.agg (qaK b))]
def q97 (cx : Cx) (c : qs4) (r : qaE) : Prop := Wk prog cx (qd8 prog 34 [[0,1]] (TV.agg (qaK r))) (zi0 c) .normal (zlE c)
abbrev q98 (K : Nat) : Prop := ∀ c r, qn4 K c = some r → ∀ cx : Cx, cx.n = 16 → q97 cx c r
theorem zlF {K} (_ : q98 K) {cx} (hn : cx.n = 16) {a b} {r} (h : qn4 (K + 1) (.c0 a b) = some r) : q97 cx (.c0 a b) r := by
 rw [qn4] at h
 obtain ⟨x1, h2, h⟩ := qaU h
 obtain ⟨x3, h4, h⟩ := qaU h
 have h := oinj h; subst h
 exact wkR [rg3, .draw [.p, .p, .p, .p, .p, .p, .p, .p, .p, (.call [[1], [1]] [(TV.c (T.sl 1 (a.Abs.map qaF))), (TV.c (T.sl 1 (b.Abs.map qaF)))] (tl 1 x1 qaF))] [opI (.call [[0], [1]] [(TV.c (T.bool (!(a.Neg == b.Neg)))), (tl 1 x1 qaF)] (TV.agg (qaK x3))), .op .p]] hn (aC (qtP h2) <| aC (qhP h4) <| aN)
theorem q3U : ∀ K : Nat, q98 K
 | 0, c, r, h => by rw [qn4] at h; cases h
 | K + 1, .c0 .., r, h => fun cx hn => zlF (q3U K) hn h
theorem qkV {K : Nat} {a : qaE} {b : qaE} {r : qaE} (h : qnS K a b = some r) : qc7 prog 34 [(TV.agg (qaK a)), (TV.agg (qaK b))] (TV.agg (qaK r)) :=
 qbL [[0,1]] (by kernel_rfl) (by simp) fun cx hn => q3U K (.c0 a b) r h cx hn
open Go.Proofs.Tryz (prog)
inductive qs7 where
 | c0 (a : qaE)
def qn8 : Nat → qs7 → Option qaE
 | 0, _ => none
 | K + 1, .c0 a =>
  (qjD K false a.Abs).bind fun x1 =>
  some x1
def q0C (K : Nat) (a : qaE) : Option qaE := qn8 K (.c0 a)
noncomputable def zfU : Code := qcS prog 99
noncomputable def zi5 : qs7 → List Fr
 | .c0 .. => [.code zfU]
def zlL : qs7 → St
 | .c0 a => St.init [(TV.agg (qaK a))]
def zaD (cx : Cx) (c : qs7) (r : qaE) : Prop := Wk prog cx (qd8 prog 99 [[0,1]] (TV.agg (qaK r))) (zi5 c) .normal (zlL c)
abbrev zaE (K : Nat) : Prop := ∀ c r, qn8 K c = some r → ∀ cx : Cx, cx.n = 6 → zaD cx c r
theorem zlN {K} (_ : zaE K) {cx} (hn : cx.n = 6) {a} {r} (h : qn8 (K + 1) (.c0 a) = some r) : zaD cx (.c0 a) r := by
 rw [qn8] at h
 obtain ⟨x1, h2, h⟩ := qaU h
 have h := oinj h; subst h
 exact wkR [rg2, rgG [oo, oo, opI (.call [[0], [1]] [(TV.c (T.bool false)), (TV.c (T.sl 1 (a.Abs.map qaF)))] (TV.agg (qaK x1))), oo]] hn (aC (qfO h2) <| aN)
theorem q3X : ∀ K : Nat, zaE K
 | 0, c, r, h => by rw [qn8] at h; cases h
 | K + 1, .c0 .., r, h => fun cx hn => zlN (q3X K) hn h
theorem zc3 {K : Nat} {a : qaE} {r : qaE} (h : q0C K a = some r) : qc7 prog 99 [(TV.agg (qaK a))] (TV.agg (qaK r)) :=
 qbL [[0,1]] (by kernel_rfl) (by simp) fun cx hn => q3X K (.c0 a) r h cx hn
open Go.Proofs.Tryz (prog)
inductive qs3 where
 | c0 (a : qaE)
def qn3 : Nat → qs3 → Option qaE
 | 0, _ => none
 | K + 1, .c0 a =>
  (qjD K (!a.Neg) a.Abs).bind fun x1 =>
  some x1
def qw2 (K : Nat) (a : qaE) : Option qaE := qn3 K (.c0 a)
noncomputable def zfP : Code := qcS prog 45
noncomputable def ziZ : qs3 → List Fr
 | .c0 .. => [.code zfP]
def zlB : qs3 → St
 | .c0 a => St.init [(TV.agg (qaK a))]
def q95 (cx : Cx) (c : qs3) (r : qaE) : Prop := Wk prog cx (qd8 prog 45 [[0,1]] (TV.agg (qaK r))) (ziZ c) .normal (zlB c)
abbrev q96 (K : Nat) : Prop := ∀ c r, qn3 K c = some r → ∀ cx : Cx, cx.n = 9 → q95 cx c r
theorem zlD {K} (_ : q96 K) {cx} (hn : cx.n = 9) {a} {r} (h : qn3 (K + 1) (.c0 a) = some r) : q95 cx (.c0 a) r := by
 rw [qn3] at h
 obtain ⟨x1, h2, h⟩ := qaU h
 have h := oinj h; subst h
 exact wkR [rg2, rgG [oo, oo, oo, oo, oo, opI (.call [[0], [1]] [(TV.c (T.bool (!a.Neg))), (TV.c (T.sl 1 (a.Abs.map qaF)))] (TV.agg (qaK x1))), oo]] hn (aC (qfO h2) <| aN)
theorem q3T : ∀ K : Nat, q96 K
 | 0, c, r, h => by rw [qn3] at h; cases h
 | K + 1, .c0 .., r, h => fun cx hn => zlD (q3T K) hn h
theorem qzH {K : Nat} {a : qaE} {r : qaE} (h : qw2 K a = some r) : qc7 prog 45 [(TV.agg (qaK a))] (TV.agg (qaK r)) :=
 qbL [[0,1]] (by kernel_rfl) (by simp) fun cx hn => q3T K (.c0 a) r h cx hn
open Go.Proofs.Tryz (prog)
inductive qoX where
 | c0 (a : qaE)
def qkT : Nat → qoX → Option qaE
 | 0, _ => none
 | K + 1, .c0 a =>
  (qjD K a.Neg a.Abs).bind fun x1 =>
  some x1
def qi7 (K : Nat) (a : qaE) : Option qaE := qkT K (.c0 a)
noncomputable def q7Q : Code := qcS prog 87
noncomputable def q94 : qoX → List Fr
 | .c0 .. => [.code q7Q]
def zcZ : qoX → St
 | .c0 a => St.init [(TV.agg (qaK a))]
def q1P (cx : Cx) (c : qoX) (r : qaE) : Prop := Wk prog cx (qd8 prog 87 [[0,1]] (TV.agg (qaK r))) (q94 c) .normal (zcZ c)
abbrev q1Q (K : Nat) : Prop := ∀ c r, qkT K c = some r → ∀ cx : Cx, cx.n = 8 → q1P cx c r
theorem zc0 {K} (_ : q1Q K) {cx} (hn : cx.n = 8) {a} {r} (h : qkT (K + 1) (.c0 a) = some r) : q1P cx (.c0 a) r := by
 rw [qkT] at h
 obtain ⟨x1, h2, h⟩ := qaU h
 have h := oinj h; subst h
 exact wkR [rg2, rgG [oo, oo, oo, oo, opI (.call [[0], [1]] [(TV.c (T.bool a.Neg)), (TV.c (T.sl 1 (a.Abs.map qaF)))] (TV.agg (qaK x1))), oo]] hn (aC (qfO h2) <| aN)
theorem qxW : ∀ K : Nat, q1Q K
 | 0, c, r, h => by rw [qkT] at h; cases h
 | K + 1, .c0 .., r, h => fun cx hn => zc0 (qxW K) hn h
theorem qj3 {K : Nat} {a : qaE} {r : qaE} (h : qi7 K a = some r) : qc7 prog 87 [(TV.agg (qaK a))] (TV.agg (qaK r)) :=
 qbL [[0,1]] (by kernel_rfl) (by simp) fun cx hn => qxW K (.c0 a) r h cx hn
open Go.Proofs.Tryz (prog)
inductive qp5 where
 | c0 (a : qaE)
def qlR : Nat → qp5 → Option Bool
 | 0, _ => none
 | K + 1, .c0 a =>
  (qi6 K a.Abs).bind fun x1 =>
  some x1
def qs9 (K : Nat) (a : qaE) : Option Bool := qlR K (.c0 a)
noncomputable def zaJ : Code := qcS prog 172
noncomputable def zc5 : qp5 → List Fr
 | .c0 .. => [.code zaJ]
def zfV : qp5 → St
 | .c0 a => St.init [(TV.agg (qaK a))]
def q30 (cx : Cx) (c : qp5) (r : Bool) : Prop := Wk prog cx (qd8 prog 172 [[0]] (TV.c (T.bool r))) (zc5 c) .normal (zfV c)
abbrev q31 (K : Nat) : Prop := ∀ c r, qlR K c = some r → ∀ cx : Cx, cx.n = 6 → q30 cx c r
theorem zfW {K} (_ : q31 K) {cx} (hn : cx.n = 6) {a} {r} (h : qlR (K + 1) (.c0 a) = some r) : q30 cx (.c0 a) r := by
 rw [qlR] at h
 obtain ⟨x1, h2, h⟩ := qaU h
 have h := oinj h; subst h
 exact wkR [rg2, rgG [oo, oo, opI (.call [[1]] [(TV.c (T.sl 1 (a.Abs.map qaF)))] (TV.c (T.bool x1))), oo]] hn (aC (qdV h2) <| aN)
theorem qzJ : ∀ K : Nat, q31 K
 | 0, c, r, h => by rw [qlR] at h; cases h
 | K + 1, .c0 .., r, h => fun cx hn => zfW (qzJ K) hn h
theorem qnT {K : Nat} {a : qaE} {r : Bool} (h : qs9 K a = some r) : qc7 prog 172 [(TV.agg (qaK a))] (TV.c (T.bool r)) :=
 qbL [[0]] (by kernel_rfl) (by simp) fun cx hn => qzJ K (.c0 a) r h cx hn
def ival (a : qaE) : Int := bif a.Neg then -val a.Abs else val a.Abs
def mkI (z : Int) : qaE := ⟨decide (z < 0), digs z.natAbs⟩
theorem qdQ (z : Int) : ival (mkI z) = z := by
  unfold ival mkI
  simp only [qdP (Int.natCast_nonneg _)]
  by_cases h : z < 0
  · simp only [h, decide_true, cond_true]; omega
  · simp only [h, decide_false, cond_false]; omega
theorem zpX (z : Int) : Dig (mkI z).Abs := qdW _
theorem qtR {z : Int} (h : 0 ≤ z) : mkI z = ⟨false, digs z⟩ := by
  unfold mkI
  rw [show (z.natAbs : Int) = z by omega, decide_eq_false (by omega)]
theorem zyQ {z : Int} (h : z < 0) : mkI z = ⟨true, digs (-z)⟩ := by
  unfold mkI
  rw [show (z.natAbs : Int) = -z by omega, decide_eq_true h]
theorem ztG {z : Int} {n : Nat} (h1 : -(4294967296 ^ n) < z) (h2 : z < 4294967296 ^ n) : (mkI z).Abs.length ≤ n := qk3 (by omega)
theorem qvZ (a : qaE) (h : Dig a.Abs) : val a.Abs = (ival a).natAbs := by
  have := qb1 h
  unfold ival
  cases a.Neg <;> simp <;> omega
theorem qm3 (x y : Int) : (x < y ∧ cmpI x y = -1) ∨ (x = y ∧ cmpI x y = 0) ∨ (y < x ∧ cmpI x y = 1) := by
  unfold cmpI
  split
  · omega
  · split <;> omega
theorem qk1 (neg : Bool) {z : Int} (h : 0 ≤ z) : Ev (fun K => qkB K neg (digs z)) (mkI (bif neg then -z else z)) := by
  refine qaW ?_
  simp only [qkB, qmX]
  have hn := qkC h
  cases neg
  · refine ev_f rfl (qe4 (qa6 _) ?_)
    rw [cond_false, qtR h]
  · refine ev_t rfl (qe4 (qa6 _) ?_)
    rw [cond_true]
    by_cases hz : z = 0
    · subst hz; rw [qhR, Int.neg_zero, qtR (Int.le_refl 0), qhR]; rfl
    · rw [zyQ (by omega), Int.neg_neg]
      congr 1
      rw [decide_eq_true_iff]
      have : digs z ≠ [] := fun e => hz (hn.1 e)
      have := List.length_pos_iff.2 this
      omega
theorem qjC (neg : Bool) {a : List Int} (h : Dig a) (hs : a.length ≤ 34359738368) : Ev (fun K => qjD K neg a) (mkI (bif neg then -val a else val a)) := by
  refine qaW ?_
  simp only [qjD, qmZ]
  exact qaR (qiS h hs) (qaR (qk1 neg (qb1 h)) (qa6 _))
theorem qnR {n : Int} (h : -9223372036854775808 ≤ n ∧ n < 9223372036854775808) : Ev (fun K => qlQ K n) (mkI n) := by
  refine qaW ?_
  simp only [qlQ, qp2, qrY]
  by_cases hn : n < 0
  · refine ev_t (by simpa using hn) ?_
    rw [show (0 - n % 18446744073709551616) % 18446744073709551616 = -n by omega]
    have := qk1 true (z := -n) (by omega)
    rw [cond_true, Int.neg_neg] at this
    exact qaR (qp0 (by omega) (by omega)) (qaR this (qa6 _))
  · refine ev_f (by simpa using hn) ?_
    rw [Int.emod_eq_of_lt (by omega) (by omega)]
    exact qaR (qp0 (by omega) (by omega)) (qaR (qk1 false (z := n) (by omega)) (qa6 _))
theorem zlM {a : qaE} (h : Dig a.Abs) (hs : a.Abs.length ≤ 34359738368) : Ev (fun K => q0C K a) (mkI (ival a).natAbs) := by
  refine qaW ?_
  simp only [q0C, qn8]
  have := qjC false h hs
  rw [cond_false, qvZ a h] at this
  exact qaR this (qa6 _)
theorem zlC {a : qaE} (h : Dig a.Abs) (hs : a.Abs.length ≤ 34359738368) : Ev (fun K => qw2 K a) (mkI (-ival a)) := by
  refine qaW ?_
  simp only [qw2, qn3]
  have := qjC (!a.Neg) h hs
  refine qaR (qe4 this ?_) (qa6 _)
  congr 1
  unfold ival
  cases a.Neg <;> simp
theorem qkU {a : qaE} (h : Dig a.Abs) (hs : a.Abs.length ≤ 34359738368) : Ev (fun K => qi7 K a) (mkI (ival a)) := by
  refine qaW ?_
  simp only [qi7, qkT]
  exact qaR (qjC a.Neg h hs) (qa6 _)
theorem qn5 {a b : qaE} (ha : Dig a.Abs) (hb : Dig b.Abs) (hs : a.Abs.length + b.Abs.length ≤ 34359738368) : Ev (fun K => qnS K a b) (mkI (ival a * ival b)) := by
  refine qaW ?_
  simp only [qnS, qn4]
  refine qaR (qx8 ha hb hs) ?_
  refine qaR (qe4 (qk1 _ (Int.mul_nonneg (qb1 ha) (qb1 hb))) ?_) (qa6 _)
  congr 1
  unfold ival
  cases a.Neg <;> cases b.Neg <;> simp [Int.neg_mul, Int.mul_neg]
theorem qhQ {a : qaE} (ha : Dig a.Abs) (hs : a.Abs.length < 4611686018427387904) : Ev (fun K => qh4 K a) (cmpI (ival a) 0) := by
  refine qaW ?_
  simp only [qh4, qmY]
  refine qaR (qkN ha hs) ?_
  have := qb1 ha
  unfold ival cmpI
  by_cases h0 : val a.Abs = 0
  · refine ev_t (by simpa using h0) (qe4 (qa6 _) ?_)
    cases a.Neg <;> simp [h0]
  · refine ev_f (by simpa using h0) ?_
    cases a.Neg
    · refine ev_f rfl (qe4 (qa6 _) ?_)
      rw [cond_false, if_neg (by omega), if_pos (by omega)]
    · refine ev_t rfl (qe4 (qa6 _) ?_)
      rw [cond_true, if_pos (by omega)]
theorem zlH {a b : qaE} (ha : Dig a.Abs) (hb : Dig b.Abs) (hs : a.Abs.length < 4611686018427387904) (ht : b.Abs.length < 4611686018427387904) : Ev (fun K => q0B K a b) (cmpI (ival a) (ival b)) := by
  refine qaW ?_
  simp only [q0B, qn6]
  refine qaR (qhQ ha hs) (qaR (qhQ hb ht) ?_)
  have hva := qb1 ha
  have hvb := qb1 hb
  have va := qvZ a ha
  have vb := qvZ b hb
  have h1 := qt7 ha hb hs ht
  have h2 := qt7 hb ha ht hs
  have c1 := qm3 (ival a) 0
  have c2 := qm3 (ival b) 0
  have c3 := qm3 (val a.Abs) (val b.Abs)
  have c4 := qm3 (val b.Abs) (val a.Abs)
  have c5 := qm3 (ival a) (ival b)
  refine znJ (fun d => qe4 (qa6 _) ?_) (fun d => znJ (fun d2 => qe4 (qa6 _) ?_) (fun d2 => znJ (fun d3 => qaR h2 (qe4 (qa6 _) ?_)) (fun d3 => qaR h1 (qe4 (qa6 _) ?_))))
  · have := of_decide_eq_true d; omega
  · have := of_decide_eq_false d; have := of_decide_eq_true d2; omega
  · have := of_decide_eq_false d; have := of_decide_eq_false d2; have := of_decide_eq_true d3; omega
  · have := of_decide_eq_false d; have := of_decide_eq_false d2; have := of_decide_eq_false d3; omega
theorem q1S {a : qaE} (ha : Dig a.Abs) (hs : a.Abs.length < 4611686018427387904) : Ev (fun K => qs9 K a) (decide (ival a = 0)) := by
  refine qaW ?_
  simp only [qs9, qlR]
  refine qaR (qkN ha hs) (qe4 (qa6 _) ?_)
  have := qvZ a ha
  rw [decide_eq_decide]; omega
open Go.Proofs.Tryz (prog)
def qjK (K : Nat) (x : Int) (y : Int) (c0 : Int) : Option (Int × Int) :=
 (qjB K x y c0).bind fun x1 =>
 some (x1.1, x1.2)
theorem qqQ {K : Nat} {x : Int} {y : Int} {c0 : Int} {r : (Int × Int)} (h : qjK K x y c0 = some r) : qk6 prog 173 [vi .u32 x, vi .u32 y, .c (C.ptr 6 0)] [(6, .var [C.t (T.int .u32 c0)])] [(6, .var [C.t (T.int .u32 r.2)])] (vi .u32 r.1) := by
 refine qs8 (n := 17) (by kernel_rfl) (by simp) fun cx hn H exs => ?_
 unfold qjK at h
 obtain ⟨x1, h2, h⟩ := qaU h
 have h := oinj h; subst h
 exact qfK (fuel := 70) [rg1, rgG [oo, oo, oo, opI (.call [[0], [0], [0]] [(ti .u32 x), (ti .u32 y), (ti .u32 c0)] (TV.tup [(false, [(T.int .u32 x1.1)]), (false, [(T.int .u32 x1.2)])])), oo, oo, oo, oo, oo], rg2, rg2]
  _
  ((6, .var [C.t (T.int .u32 x1.2)]) :: (6, .var [C.t (T.int .u32 c0)]) :: H) hn (by kernel_rfl) (aC (qjA h2) <| aN) (fun k => (zvU _ _ _ _ k))
open Go.Proofs.Tryz (prog)
inductive qs0 where
 | c0 (a : (List Int)) (b : (List Int))
 | c1 (carry : Int) (r25 : (List Int)) (a : (List Int)) (b : (List Int)) (t27 : (List Int)) (t28 : Int) (t29 : Int)
 | c2 (carry : Int) (r25 : (List Int)) (a : (List Int)) (i : Int)
def qdR : Nat → qs0 → Option (List Int)
 | 0, _ => none
 | K + 1, .c0 a b =>
  (qc9 K a).bind fun x1 =>
  (qc9 K b).bind fun x3 =>
  bif (decide ((x1.length : Int) < (x3.length : Int))) then
   gd (0 ≤ (wI6 ((x3.length : Int) + (1 : Int))) ∧ (wI6 ((x3.length : Int) + (1 : Int))) ≤ (wI6 ((x3.length : Int) + (1 : Int))) ∧ (4 : Int) * (wI6 ((x3.length : Int) + (1 : Int))) ≤ 140737488355328) <|
   qdR K (.c1 (0 : Int) (List.replicate (wI6 ((x3.length : Int) + (1 : Int))).toNat ((0 : Int) : Int)) x3 x1 x1 (x1.length : Int) (0 : Int))
  else
   gd (0 ≤ (wI6 ((x1.length : Int) + (1 : Int))) ∧ (wI6 ((x1.length : Int) + (1 : Int))) ≤ (wI6 ((x1.length : Int) + (1 : Int))) ∧ (4 : Int) * (wI6 ((x1.length : Int) + (1 : Int))) ≤ 140737488355328) <|
   qdR K (.c1 (0 : Int) (List.replicate (wI6 ((x1.length : Int) + (1 : Int))).toNat ((0 : Int) : Int)) x1 x3 x3 (x3.length : Int) (0 : Int))
 | K + 1, .c1 carry r25 a b t27 t28 t29 =>
  bif (decide (t29 < t28)) then
   (gi t27 t29).bind fun x2 =>
   (gi a t29).bind fun x4 =>
   (qjK K x4 x2 carry).bind fun x6 =>
   (gi r25 t29).bind fun _ =>
   qdR K (.c1 x6.2 (r25.set (t29.toNat) x6.1) a b t27 t28 (wI6 (t29 + (1 : Int))))
  else
   qdR K (.c2 carry r25 a (b.length : Int))
 | K + 1, .c2 carry r25 a i =>
  bif (decide (i < (a.length : Int))) then
   (gi a i).bind fun x2 =>
   (qjK K x2 (0 : Int) carry).bind fun x4 =>
   (gi r25 i).bind fun _ =>
   qdR K (.c2 x4.2 (r25.set (i.toNat) x4.1) a (wI6 (i + (1 : Int))))
  else
   (gi r25 (a.length : Int)).bind fun _ =>
   (qc9 K (r25.set ((a.length : Int).toNat) carry)).bind fun x4 =>
   some x4
def qz9 (K : Nat) (a : (List Int)) (b : (List Int)) : Option (List Int) := qdR K (.c0 a b)
noncomputable def qnZ : Code := qcS prog 113
noncomputable def ziE : qs0 → List Fr
 | .c0 .. => [.code qnZ]
 | .c1 .. => [.code (.loop (atC qnZ [1,1,1,1,1,1,0,1,0,0])), .blk 0, .code (atC qnZ [1,1,1,1,1,1,1])]
 | .c2 .. => [.code (.loop (atC qnZ [1,1,1,1,1,1,1,0,1,0,0])), .blk 2, .code (atC qnZ [1,1,1,1,1,1,1,1])]
def zk5 : qs0 → St
 | .c0 a b => St.init [(tl 1 a qaF), (tl 1 b qaF)]
 | .c1 carry r25 a b t27 t28 t29 => ⟨[(0, vl 1 a qaF), (1, vl 1 b qaF), (5, .c (C.row 25 0 r25.length)), (6, .c (C.ptr 6 0)), (7, .c (C.fn 173 [Cap.ptr 6 0])), (27, vl 1 t27 qaF), (28, vi .i64 t28), (29, vi .i64 t29)], [(6, .var [C.t (T.int .u32 carry)]), (25, .row 143 1 (r25.map qaF) 0)], []⟩
 | .c2 carry r25 a i => ⟨[(0, vl 1 a qaF), (5, .c (C.row 25 0 r25.length)), (6, .c (C.ptr 6 0)), (7, .c (C.fn 173 [Cap.ptr 6 0])), (10, vi .i64 i)], [(6, .var [C.t (T.int .u32 carry)]), (25, .row 143 1 (r25.map qaF) 0)], []⟩
def qvR (cx : Cx) (c : qs0) (r : (List Int)) : Prop := Wk prog cx (qd8 prog 113 [[1]] (tl 1 r qaF)) (ziE c) .normal (zk5 c)
abbrev qvS (K : Nat) : Prop := ∀ c r, qdR K c = some r → ∀ cx : Cx, cx.n = 69 → qvR cx c r
theorem zk9 {K} (ih : qvS K) {cx} (hn : cx.n = 69) {a b} {r} (h : qdR (K + 1) (.c0 a b) = some r) : qvR cx (.c0 a b) r := by
 rw [qdR] at h
 obtain ⟨x1, h2, h⟩ := qaU h
 obtain ⟨x3, h4, h⟩ := qaU h
 rcases qa0 h with ⟨h5, h⟩ | ⟨h5, h⟩
 ·obtain ⟨h6, h⟩ := qbV h
  exact wkG [rg1, rgG [oo, opI (.call [[1]] [(tl 1 a qaF)] (tl 1 x1 qaF)), oo, opI (.call [[1]] [(tl 1 b qaF)] (tl 1 x3 qaF)), oo, oo], rgG [oo, opI (.ln (x1.length : Int)), oo, opI (.ln (x3.length : Int)), oo], bTr, rg4, rgG [oo, opI (.ln (x3.length : Int)), oo, opI (.mk (qaF (0 : Int)) ((List.replicate (wI6 ((x3.length : Int) + (1 : Int))).toNat ((0 : Int) : Int)).map qaF)), oo], rg2, rgG [.op .clo, oo], rgG [oo, opI (.ln (x1.length : Int)), oo], .pre [.rl 5 0 (List.replicate (wI6 ((x3.length : Int) + (1 : Int))).toNat ((0 : Int) : Int)).length, .keep [0,1,5,6,7,27,28,29] [6,25]]] hn (aC (qa5 h2) <| aC (qa5 h4) <| aC (qdI x1 qaF) <| aC (qdI x3 qaF) <| aC h5 <| aC (qdI x3 qaF) <| aC h6.1 <| aC h6.2.1 <| aC h6.2.2 <| aC (quZ _ _ _ : List.replicate (wI6 ((x3.length : Int) + (1 : Int))).toNat (qaF (0 : Int)) = (List.replicate (wI6 ((x3.length : Int) + (1 : Int))).toNat ((0 : Int) : Int)).map qaF) <| aC (qdI x1 qaF) <| aC r0 <| aC (by simp : (wI6 ((x3.length : Int) + (1 : Int))).toNat = (List.replicate (wI6 ((x3.length : Int) + (1 : Int))).toNat ((0 : Int) : Int)).length) <| aN) (ih _ _ h cx hn)
 ·obtain ⟨h6, h⟩ := qbV h
  exact wkG [rg1, rgG [oo, opI (.call [[1]] [(tl 1 a qaF)] (tl 1 x1 qaF)), oo, opI (.call [[1]] [(tl 1 b qaF)] (tl 1 x3 qaF)), oo, oo], rgG [oo, opI (.ln (x1.length : Int)), oo, opI (.ln (x3.length : Int)), oo], bFa, rgG [oo, opI (.ln (x1.length : Int)), oo, opI (.mk (qaF (0 : Int)) ((List.replicate (wI6 ((x1.length : Int) + (1 : Int))).toNat ((0 : Int) : Int)).map qaF)), oo], rg2, rgG [.op .clo, oo], rgG [oo, opI (.ln (x3.length : Int)), oo], .pre [.rl 5 0 (List.replicate (wI6 ((x1.length : Int) + (1 : Int))).toNat ((0 : Int) : Int)).length, .keep [0,1,5,6,7,27,28,29] [6,25]]] hn (aC (qa5 h2) <| aC (qa5 h4) <| aC (qdI x1 qaF) <| aC (qdI x3 qaF) <| aC h5 <| aC (qdI x1 qaF) <| aC h6.1 <| aC h6.2.1 <| aC h6.2.2 <| aC (quZ _ _ _ : List.replicate (wI6 ((x1.length : Int) + (1 : Int))).toNat (qaF (0 : Int)) = (List.replicate (wI6 ((x1.length : Int) + (1 : Int))).toNat ((0 : Int) : Int)).map qaF) <| aC (qdI x3 qaF) <| aC r0 <| aC (by simp : (wI6 ((x1.length : Int) + (1 : Int))).toNat = (List.replicate (wI6 ((x1.length : Int) + (1 : Int))).toNat ((0 : Int) : Int)).length) <| aN) (ih _ _ h cx hn)
theorem zk8 {K} (ih : qvS K) {cx} (hn : cx.n = 69) {carry r25 a b t27 t28 t29} {r} (h : qdR (K + 1) (.c1 carry r25 a b t27 t28 t29) = some r) : qvR cx (.c1 carry r25 a b t27 t28 t29) r := by
 rw [qdR] at h
 rcases qa0 h with ⟨h1, h⟩ | ⟨h1, h⟩
 ·obtain ⟨x2, h3, h⟩ := qaU h
  obtain ⟨x4, h5, h⟩ := qaU h
  obtain ⟨x6, h7, h⟩ := qaU h
  obtain ⟨x8, h9, h⟩ := qaU h
  exact wkG [.go, rg1, bTr, rgG [oo, opI (.ix (qaF x2)), oo, oo, oo], rgG [oo, oo, oo, oo, oo, opI (.ix (qaF x4)), oo, oo, .callR [6] [(6, .var [C.t (T.int .u32 x6.2)])] (vi .u32 x6.1), .op .ir, opI (.st (qaF x8) ((r25.set (t29.toNat) x6.1).map qaF))], rg2, .pre [.rl 5 0 (r25.set (t29.toNat) x6.1).length, .keep [0,1,5,6,7,27,28,29] [6,25]]] hn (aC h1 <| aC (qb5 h3) <| aC (qfP qaF h3) <| aC (qb5 h5) <| aC (qfP qaF h5) <| aC (qqQ h7) <| aC (qb5 h9) <| aC (qc1 h9 (by simp) : t29 < ((r25.length : Nat) : Int)) <| aC (qc2 qaF h9 : (r25.map qaF)[(0 + t29.toNat)]? = some (qaF x8)) <| aC (qe8 _ _ x6.1 _ : (r25.map qaF).set (0 + t29.toNat) (qdH (qaF x8) 0 [(T.int .u32 x6.1)]) = (r25.set (t29.toNat) x6.1).map qaF) <| aC (Nat.zero_le _ : 0 ≤ (0 + t29.toNat)) <| aC r0 <| aC (by simp : r25.length = (r25.set (t29.toNat) x6.1).length) <| aN) (ih _ _ h cx hn)
 ·exact wkG [.go, rg1, bFa, rgG [oo, opI (.ln (b.length : Int)), oo], .pre [.rl 5 0 r25.length, .keep [0,5,6,7,10] [6,25]]] hn (aC h1 <| aC (qdI b qaF) <| aC r0 <| aC (lq r25) <| aN) (ih _ _ h cx hn)
theorem zk7 {K} (ih : qvS K) {cx} (hn : cx.n = 69) {carry r25 a i} {r} (h : qdR (K + 1) (.c2 carry r25 a i) = some r) : qvR cx (.c2 carry r25 a i) r := by
 rw [qdR] at h
 rcases qa0 h with ⟨h1, h⟩ | ⟨h1, h⟩
 ·obtain ⟨x2, h3, h⟩ := qaU h
  obtain ⟨x4, h5, h⟩ := qaU h
  obtain ⟨x6, h7, h⟩ := qaU h
  exact wkG [.go, rgG [oo, oo, opI (.ln (a.length : Int)), oo], bTr, rgG [oo, oo, oo, oo, oo, opI (.ix (qaF x2)), oo, .callR [6] [(6, .var [C.t (T.int .u32 x4.2)])] (vi .u32 x4.1), .op .ir, opI (.st (qaF x6) ((r25.set (i.toNat) x4.1).map qaF))], rg3, .pre [.rl 5 0 (r25.set (i.toNat) x4.1).length, .keep [0,5,6,7,10] [6,25]]] hn (aC (qdI a qaF) <| aC h1 <| aC (qb5 h3) <| aC (qfP qaF h3) <| aC (qqQ h5) <| aC (qb5 h7) <| aC (qc1 h7 (by simp) : i < ((r25.length : Nat) : Int)) <| aC (qc2 qaF h7 : (r25.map qaF)[(0 + i.toNat)]? = some (qaF x6)) <| aC (qe8 _ _ x4.1 _ : (r25.map qaF).set (0 + i.toNat) (qdH (qaF x6) 0 [(T.int .u32 x4.1)]) = (r25.set (i.toNat) x4.1).map qaF) <| aC (Nat.zero_le _ : 0 ≤ (0 + i.toNat)) <| aC r0 <| aC (by simp : r25.length = (r25.set (i.toNat) x4.1).length) <| aN) (ih _ _ h cx hn)
 ·obtain ⟨x2, h3, h⟩ := qaU h
  obtain ⟨x4, h5, h⟩ := qaU h
  have h := oinj h; subst h
  exact wkR [.go, rgG [oo, oo, opI (.ln (a.length : Int)), oo], bFa, rgG [oo, oo, opI (.ln (a.length : Int)), oo, .op .ir, opI (.st (qaF x2) ((r25.set ((a.length : Int).toNat) carry).map qaF))], rgG [oo, .snap 67 (max 0 (0 + r25.length)) ((r25.set ((a.length : Int).toNat) carry).map qaF), opI (.call [[1]] [(TV.c (T.sl 1 ((r25.set ((a.length : Int).toNat) carry).map qaF)))] (tl 1 x4 qaF)), oo]] hn (aC (qdI a qaF) <| aC h1 <| aC (qdI a qaF) <| aC (qb5 h3) <| aC (qc1 h3 (by simp) : (a.length : Int) < ((r25.length : Nat) : Int)) <| aC (qc2 qaF h3 : (r25.map qaF)[(0 + (a.length : Int).toNat)]? = some (qaF x2)) <| aC (qe8 _ _ carry _ : (r25.map qaF).set (0 + (a.length : Int).toNat) (qdH (qaF x2) 0 [(T.int .u32 carry)]) = (r25.set ((a.length : Int).toNat) carry).map qaF) <| aC (Nat.zero_le _ : 0 ≤ (0 + (a.length : Int).toNat)) <| aC (qeH _ _ _ (by simp) : (((r25.set ((a.length : Int).toNat) carry).map qaF).drop 0).take r25.length = (r25.set ((a.length : Int).toNat) carry).map qaF) <| aC (rfl : (max 0 (0 + r25.length)) = (max 0 (0 + r25.length))) <| aC (qa5 h5) <| aN)
theorem qsZ : ∀ K : Nat, qvS K
 | 0, c, r, h => by rw [qdR] at h; cases h
 | K + 1, .c0 .., r, h => fun cx hn => zk9 (qsZ K) hn h
 | K + 1, .c1 .., r, h => fun cx hn => zk8 (qsZ K) hn h
 | K + 1, .c2 .., r, h => fun cx hn => zk7 (qsZ K) hn h
theorem zcJ {K : Nat} {a : (List Int)} {b : (List Int)} {r : (List Int)} (h : qz9 K a b = some r) : qc7 prog 113 [(tl 1 a qaF), (tl 1 b qaF)] (tl 1 r qaF) :=
 qbL [[1]] (by kernel_rfl) (by simp) fun cx hn => qsZ K (.c0 a b) r h cx hn
open Go.Proofs.Tryz (prog)
inductive qnH where
 | c0 (x : Int) (y : Int) (borrow : Int)
def qjL : Nat → qnH → Option (Int × Int)
 | 0, _ => none
 | _ + 1, .c0 x y borrow =>
  some ((wU3 ((wU3 (x - y)) - borrow)), (qdG .u32 (bits .or .u32 (bits .and .u32 (bits .xor .u32 (if IntKind.signed .u32 then -1 else IntKind.max .u32) x) y) (bits .and .u32 (bits .xor .u32 (if IntKind.signed .u32 then -1 else IntKind.max .u32) (bits .xor .u32 x y)) (wU3 ((wU3 (x - y)) - borrow)))) (31 : Int)))
def qpA (K : Nat) (x : Int) (y : Int) (borrow : Int) : Option (Int × Int) := qjL K (.c0 x y borrow)
noncomputable def q4X : Code := qcS prog 174
noncomputable def q7E : qnH → List Fr
 | .c0 .. => [.code q4X]
def q88 : qnH → St
 | .c0 x y borrow => St.init [(ti .u32 x), (ti .u32 y), (ti .u32 borrow)]
def qy0 (cx : Cx) (c : qnH) (r : (Int × Int)) : Prop := Wk prog cx (qd8 prog 174 [[0], [0]] (TV.tup [(false, [(T.int .u32 r.1)]), (false, [(T.int .u32 r.2)])])) (q7E c) .normal (q88 c)
abbrev qy1 (K : Nat) : Prop := ∀ c r, qjL K c = some r → ∀ cx : Cx, cx.n = 25 → qy0 cx c r
theorem q89 {K} (_ : qy1 K) {cx} (hn : cx.n = 25) {x y borrow} {r} (h : qjL (K + 1) (.c0 x y borrow) = some r) : qy0 cx (.c0 x y borrow) r := by
 rw [qjL] at h
 have h := oinj h; subst h
 exact zlU (fuel := 62) [rg2, rg6, rgG [oo, oo, oo, oo, oo, oo, oo, oo, oo, oo, oo, oo, oo]] _ hn (by kernel_rfl) aN
theorem qwK : ∀ K : Nat, qy1 K
 | 0, c, r, h => by rw [qjL] at h; cases h
 | K + 1, .c0 .., r, h => fun cx hn => q89 (qwK K) hn h
theorem quJ {K : Nat} {x : Int} {y : Int} {borrow : Int} {r : (Int × Int)} (h : qpA K x y borrow = some r) : qc7 prog 174 [(ti .u32 x), (ti .u32 y), (ti .u32 borrow)] (TV.tup [(false, [(T.int .u32 r.1)]), (false, [(T.int .u32 r.2)])]) :=
 qbL [[0], [0]] (by kernel_rfl) (by simp) fun cx hn => qwK K (.c0 x y borrow) r h cx hn
open Go.Proofs.Tryz (prog)
inductive qsN where
 | c0 (a : (List Int)) (b : (List Int))
 | c1 (r21 : (List Int)) (b : (List Int)) (borrow : Int) (t22 : (List Int)) (t23 : Int) (t24 : Int)
 | c2 (r21 : (List Int)) (b : (List Int)) (borrow : Int) (t22 : (List Int)) (t23 : Int) (t24 : Int)
def qd7 : Nat → qsN → Option ((List Int) × Bool)
 | 0, _ => none
 | K + 1, .c0 a b =>
  (qrR K a b).bind fun x1 =>
  bif (decide (x1 < (0 : Int))) then
   some ([], false)
  else
   (qc9 K a).bind fun x4 =>
   (qc9 K b).bind fun x6 =>
   gd (0 ≤ (x4.length : Int) ∧ (x4.length : Int) ≤ (x4.length : Int) ∧ (4 : Int) * (x4.length : Int) ≤ 140737488355328) <|
   qd7 K (.c1 (List.replicate (x4.length : Int).toNat ((0 : Int) : Int)) x6 (0 : Int) x4 (x4.length : Int) (0 : Int))
 | K + 1, .c1 r21 b borrow t22 t23 t24 =>
  bif (decide (t24 < t23)) then
   (gi t22 t24).bind fun x2 =>
   bif (decide (t24 < (b.length : Int))) then
    (gi b t24).bind fun x5 =>
    (qpA K x2 x5 borrow).bind fun x7 =>
    (gi r21 t24).bind fun _ =>
    qd7 K (.c2 (r21.set (t24.toNat) x7.1) b x7.2 t22 t23 t24)
   else
    (qpA K x2 (0 : Int) borrow).bind fun x5 =>
    (gi r21 t24).bind fun _ =>
    qd7 K (.c2 (r21.set (t24.toNat) x5.1) b x5.2 t22 t23 t24)
  else
   (qc9 K r21).bind fun x2 =>
   some (x2, true)
 | K + 1, .c2 r21 b borrow t22 t23 t24 =>
  qd7 K (.c1 r21 b borrow t22 t23 (wI6 (t24 + (1 : Int))))
def qwF (K : Nat) (a : (List Int)) (b : (List Int)) : Option ((List Int) × Bool) := qd7 K (.c0 a b)
noncomputable def qlN : Code := qcS prog 114
noncomputable def zh7 : qsN → List Fr
 | .c0 .. => [.code qlN]
 | .c1 .. => [.code (.loop (atC qlN [1,1,1,1,1,0,1,0,0])), .blk 0, .code (atC qlN [1,1,1,1,1,1])]
 | .c2 .. => [.code (atC qlN [1,1,1,1,1,0,1,0,0,1,1,1]), .lp (atC qlN [1,1,1,1,1,0,1,0,0]), .blk 0, .code (atC qlN [1,1,1,1,1,1])]
def zkI : qsN → St
 | .c0 a b => St.init [(tl 1 a qaF), (tl 1 b qaF)]
 | .c1 r21 b borrow t22 t23 t24 => ⟨[(1, vl 1 b qaF), (6, .c (C.row 21 0 r21.length)), (7, vi .u32 borrow), (22, vl 1 t22 qaF), (23, vi .i64 t23), (24, vi .i64 t24)], [(21, .row 143 1 (r21.map qaF) 0)], []⟩
 | .c2 r21 b borrow t22 t23 t24 => ⟨[(1, vl 1 b qaF), (6, .c (C.row 21 0 r21.length)), (7, vi .u32 borrow), (22, vl 1 t22 qaF), (23, vi .i64 t23), (24, vi .i64 t24)], [(21, .row 143 1 (r21.map qaF) 0)], []⟩
def qvP (cx : Cx) (c : qsN) (r : ((List Int) × Bool)) : Prop := Wk prog cx (qd8 prog 114 [[1], [0]] (TV.tup [(false, [(T.sl 1 (r.1.map qaF))]), (false, [(T.bool r.2)])])) (zh7 c) .normal (zkI c)
abbrev qvQ (K : Nat) : Prop := ∀ c r, qd7 K c = some r → ∀ cx : Cx, cx.n = 50 → qvP cx c r
theorem zkL {K} (ih : qvQ K) {cx} (hn : cx.n = 50) {a b} {r} (h : qd7 (K + 1) (.c0 a b) = some r) : qvP cx (.c0 a b) r := by
 rw [qd7] at h
 obtain ⟨x1, h2, h⟩ := qaU h
 rcases qa0 h with ⟨h3, h⟩ | ⟨h3, h⟩
 ·have h := oinj h; subst h
  exact wkR [rg2, rgG [oo, oo, opI (.call [[1], [1]] [(tl 1 a qaF), (tl 1 b qaF)] (ti .i64 x1)), oo], bTr, rg2] hn (aC (qg1 h2) <| aC h3 <| aN)
 ·obtain ⟨x4, h5, h⟩ := qaU h
  obtain ⟨x6, h7, h⟩ := qaU h
  obtain ⟨h8, h⟩ := qbV h
  exact wkG [rg2, rgG [oo, oo, opI (.call [[1], [1]] [(tl 1 a qaF), (tl 1 b qaF)] (ti .i64 x1)), oo], bFa, rgG [oo, opI (.call [[1]] [(tl 1 a qaF)] (tl 1 x4 qaF)), oo, opI (.call [[1]] [(tl 1 b qaF)] (tl 1 x6 qaF)), oo, oo], rgG [oo, opI (.ln (x4.length : Int)), opI (.mk (qaF (0 : Int)) ((List.replicate (x4.length : Int).toNat ((0 : Int) : Int)).map qaF)), oo], rg1, rgG [oo, opI (.ln (x4.length : Int)), oo], .pre [.rl 6 0 (List.replicate (x4.length : Int).toNat ((0 : Int) : Int)).length, .keep [1,6,7,22,23,24] [21]]] hn (aC (qg1 h2) <| aC h3 <| aC (qa5 h5) <| aC (qa5 h7) <| aC (qdI x4 qaF) <| aC h8.1 <| aC h8.2.1 <| aC h8.2.2 <| aC (quZ _ _ _ : List.replicate (x4.length : Int).toNat (qaF (0 : Int)) = (List.replicate (x4.length : Int).toNat ((0 : Int) : Int)).map qaF) <| aC (qdI x4 qaF) <| aC r0 <| aC (by simp : (x4.length : Int).toNat = (List.replicate (x4.length : Int).toNat ((0 : Int) : Int)).length) <| aN) (ih _ _ h cx hn)
theorem zkK {K} (ih : qvQ K) {cx} (hn : cx.n = 50) {r21 b borrow t22 t23 t24} {r} (h : qd7 (K + 1) (.c1 r21 b borrow t22 t23 t24) = some r) : qvP cx (.c1 r21 b borrow t22 t23 t24) r := by
 rw [qd7] at h
 rcases qa0 h with ⟨h1, h⟩ | ⟨h1, h⟩
 ·obtain ⟨x2, h3, h⟩ := qaU h
  rcases qa0 h with ⟨h4, h⟩ | ⟨h4, h⟩
  ·obtain ⟨x5, h6, h⟩ := qaU h
   obtain ⟨x7, h8, h⟩ := qaU h
   obtain ⟨x9, h10, h⟩ := qaU h
   exact wkG [.go, rg1, bTr, rgG [oo, opI (.ix (qaF x2)), oo, oo, oo], rg1, rgG [oo, oo, opI (.ln (b.length : Int)), oo], bTr, rgG [oo, oo, opI (.ix (qaF x5)), oo, oo], rgG [oo, oo, oo, oo, oo, opI (.call [[0], [0], [0]] [(ti .u32 x2), (ti .u32 x5), (ti .u32 borrow)] (TV.tup [(false, [(T.int .u32 x7.1)]), (false, [(T.int .u32 x7.2)])])), oo, oo, oo, .op .ir, opI (.st (qaF x9) ((r21.set (t24.toNat) x7.1).map qaF)), oo], .pre [.rl 6 0 (r21.set (t24.toNat) x7.1).length, .keep [1,6,7,22,23,24] [21]]] hn (aC h1 <| aC (qb5 h3) <| aC (qfP qaF h3) <| aC (qdI b qaF) <| aC h4 <| aC (qb5 h6) <| aC (qfP qaF h6) <| aC (quJ h8) <| aC (qb5 h10) <| aC (qc1 h10 (by simp) : t24 < ((r21.length : Nat) : Int)) <| aC (qc2 qaF h10 : (r21.map qaF)[(0 + t24.toNat)]? = some (qaF x9)) <| aC (qe8 _ _ x7.1 _ : (r21.map qaF).set (0 + t24.toNat) (qdH (qaF x9) 0 [(T.int .u32 x7.1)]) = (r21.set (t24.toNat) x7.1).map qaF) <| aC (Nat.zero_le _ : 0 ≤ (0 + t24.toNat)) <| aC r0 <| aC (by simp : r21.length = (r21.set (t24.toNat) x7.1).length) <| aN) (ih _ _ h cx hn)
  ·obtain ⟨x5, h6, h⟩ := qaU h
   obtain ⟨x7, h8, h⟩ := qaU h
   exact wkG [.go, rg1, bTr, rgG [oo, opI (.ix (qaF x2)), oo, oo, oo], rg1, rgG [oo, oo, opI (.ln (b.length : Int)), oo], bFa, rgG [oo, oo, oo, oo, oo, opI (.call [[0], [0], [0]] [(ti .u32 x2), (TV.c (T.int .u32 (0 : Int))), (ti .u32 borrow)] (TV.tup [(false, [(T.int .u32 x5.1)]), (false, [(T.int .u32 x5.2)])])), oo, oo, oo, .op .ir, opI (.st (qaF x7) ((r21.set (t24.toNat) x5.1).map qaF)), oo], .pre [.rl 6 0 (r21.set (t24.toNat) x5.1).length, .keep [1,6,7,22,23,24] [21]]] hn (aC h1 <| aC (qb5 h3) <| aC (qfP qaF h3) <| aC (qdI b qaF) <| aC h4 <| aC (quJ h6) <| aC (qb5 h8) <| aC (qc1 h8 (by simp) : t24 < ((r21.length : Nat) : Int)) <| aC (qc2 qaF h8 : (r21.map qaF)[(0 + t24.toNat)]? = some (qaF x7)) <| aC (qe8 _ _ x5.1 _ : (r21.map qaF).set (0 + t24.toNat) (qdH (qaF x7) 0 [(T.int .u32 x5.1)]) = (r21.set (t24.toNat) x5.1).map qaF) <| aC (Nat.zero_le _ : 0 ≤ (0 + t24.toNat)) <| aC r0 <| aC (by simp : r21.length = (r21.set (t24.toNat) x5.1).length) <| aN) (ih _ _ h cx hn)
 ·obtain ⟨x2, h3, h⟩ := qaU h
  have h := oinj h; subst h
  exact wkR [.go, rg1, bFa, rgG [oo, .snap 48 (max 0 (0 + r21.length)) (r21.map qaF), opI (.call [[1]] [(tl 1 r21 qaF)] (tl 1 x2 qaF)), oo, oo]] hn (aC h1 <| aC (qeH _ _ _ (by simp) : ((r21.map qaF).drop 0).take r21.length = r21.map qaF) <| aC (rfl : (max 0 (0 + r21.length)) = (max 0 (0 + r21.length))) <| aC (qa5 h3) <| aN)
theorem zkJ {K} (ih : qvQ K) {cx} (hn : cx.n = 50) {r21 b borrow t22 t23 t24} {r} (h : qd7 (K + 1) (.c2 r21 b borrow t22 t23 t24) = some r) : qvP cx (.c2 r21 b borrow t22 t23 t24) r := by
 rw [qd7] at h
 exact wkG [rg2, .pre [.rl 6 0 r21.length, .keep [1,6,7,22,23,24] [21]]] hn (aC r0 <| aC (lq r21) <| aN) (ih _ _ h cx hn)
theorem qsM : ∀ K : Nat, qvQ K
 | 0, c, r, h => by rw [qd7] at h; cases h
 | K + 1, .c0 .., r, h => fun cx hn => zkL (qsM K) hn h
 | K + 1, .c1 .., r, h => fun cx hn => zkK (qsM K) hn h
 | K + 1, .c2 .., r, h => fun cx hn => zkJ (qsM K) hn h
theorem qtO {K : Nat} {a : (List Int)} {b : (List Int)} {r : ((List Int) × Bool)} (h : qwF K a b = some r) : qc7 prog 114 [(tl 1 a qaF), (tl 1 b qaF)] (TV.tup [(false, [(T.sl 1 (r.1.map qaF))]), (false, [(T.bool r.2)])]) :=
 qbL [[1], [0]] (by kernel_rfl) (by simp) fun cx hn => qsM K (.c0 a b) r h cx hn
open Go.Proofs.Tryz (prog)
inductive qsS where
 | c0 (a : (List Int)) (n : Int)
 | c1 (r28 : (List Int)) (shift : Int) (low : Int) (i : Int)
def qfH : Nat → qsS → Option (List Int)
 | 0, _ => none
 | K + 1, .c0 a n =>
  (qc9 K a).bind fun x1 =>
  bif (decide ((x1.length : Int) = (0 : Int))) then
   some []
  else
   gd (0 ≤ (wI6 ((wI6 ((wI6 (Int.tdiv (min (max n (0 : Int)) (16777216 : Int)) (32 : Int))) + (x1.length : Int))) + (1 : Int))) ∧ (wI6 ((wI6 ((wI6 (Int.tdiv (min (max n (0 : Int)) (16777216 : Int)) (32 : Int))) + (x1.length : Int))) + (1 : Int))) ≤ (wI6 ((wI6 ((wI6 (Int.tdiv (min (max n (0 : Int)) (16777216 : Int)) (32 : Int))) + (x1.length : Int))) + (1 : Int))) ∧ (4 : Int) * (wI6 ((wI6 ((wI6 (Int.tdiv (min (max n (0 : Int)) (16777216 : Int)) (32 : Int))) + (x1.length : Int))) + (1 : Int))) ≤ 140737488355328) <|
   gd (0 ≤ (wI6 (Int.tdiv (min (max n (0 : Int)) (16777216 : Int)) (32 : Int))) ∧ (wI6 (Int.tdiv (min (max n (0 : Int)) (16777216 : Int)) (32 : Int))).toNat ≤ (wI6 ((wI6 ((wI6 (Int.tdiv (min (max n (0 : Int)) (16777216 : Int)) (32 : Int))) + (x1.length : Int))) + (1 : Int))).toNat ∧ (wI6 ((wI6 ((wI6 (Int.tdiv (min (max n (0 : Int)) (16777216 : Int)) (32 : Int))) + (x1.length : Int))) + (1 : Int))).toNat ≤ (wI6 ((wI6 ((wI6 (Int.tdiv (min (max n (0 : Int)) (16777216 : Int)) (32 : Int))) + (x1.length : Int))) + (1 : Int))).toNat ∧ ((wI6 (Int.tdiv (min (max n (0 : Int)) (16777216 : Int)) (32 : Int))).toNat = 0 ∨ (wI6 (Int.tdiv (min (max n (0 : Int)) (16777216 : Int)) (32 : Int))).toNat < (wI6 ((wI6 ((wI6 (Int.tdiv (min (max n (0 : Int)) (16777216 : Int)) (32 : Int))) + (x1.length : Int))) + (1 : Int))).toNat)) <|
   gd ((0 + (wI6 (Int.tdiv (min (max n (0 : Int)) (16777216 : Int)) (32 : Int))).toNat) + ((wI6 ((wI6 ((wI6 (Int.tdiv (min (max n (0 : Int)) (16777216 : Int)) (32 : Int))) + (x1.length : Int))) + (1 : Int))).toNat - (wI6 (Int.tdiv (min (max n (0 : Int)) (16777216 : Int)) (32 : Int))).toNat) ≤ (List.replicate (wI6 ((wI6 ((wI6 (Int.tdiv (min (max n (0 : Int)) (16777216 : Int)) (32 : Int))) + (x1.length : Int))) + (1 : Int))).toNat ((0 : Int) : Int)).length) <|
   bif (decide ((0 : Int) < (Int.tmod (min (max n (0 : Int)) (16777216 : Int)) (32 : Int)))) then
    qfH K (.c1 (qhE (List.replicate (wI6 ((wI6 ((wI6 (Int.tdiv (min (max n (0 : Int)) (16777216 : Int)) (32 : Int))) + (x1.length : Int))) + (1 : Int))).toNat ((0 : Int) : Int)) (0 + (wI6 (Int.tdiv (min (max n (0 : Int)) (16777216 : Int)) (32 : Int))).toNat) ((wI6 ((wI6 ((wI6 (Int.tdiv (min (max n (0 : Int)) (16777216 : Int)) (32 : Int))) + (x1.length : Int))) + (1 : Int))).toNat - (wI6 (Int.tdiv (min (max n (0 : Int)) (16777216 : Int)) (32 : Int))).toNat) x1) (Int.tmod (min (max n (0 : Int)) (16777216 : Int)) (32 : Int)) (0 : Int) (wI6 (Int.tdiv (min (max n (0 : Int)) (16777216 : Int)) (32 : Int))))
   else
    (qc9 K (qhE (List.replicate (wI6 ((wI6 ((wI6 (Int.tdiv (min (max n (0 : Int)) (16777216 : Int)) (32 : Int))) + (x1.length : Int))) + (1 : Int))).toNat ((0 : Int) : Int)) (0 + (wI6 (Int.tdiv (min (max n (0 : Int)) (16777216 : Int)) (32 : Int))).toNat) ((wI6 ((wI6 ((wI6 (Int.tdiv (min (max n (0 : Int)) (16777216 : Int)) (32 : Int))) + (x1.length : Int))) + (1 : Int))).toNat - (wI6 (Int.tdiv (min (max n (0 : Int)) (16777216 : Int)) (32 : Int))).toNat) x1)).bind fun x8 =>
    some x8
 | K + 1, .c1 r28 shift low i =>
  bif (decide (i < ((r28.length : Nat) : Int))) then
   (gi r28 i).bind fun x2 =>
   gd (0 ≤ shift) <|
   (gi r28 i).bind fun _ =>
   gd (0 ≤ (wI6 ((32 : Int) - shift))) <|
   qfH K (.c1 (r28.set (i.toNat) (bits .or .u32 (qi3 .u32 x2 shift) low)) shift (qdG .u32 x2 (wI6 ((32 : Int) - shift))) (wI6 (i + (1 : Int))))
  else
   (qc9 K r28).bind fun x2 =>
   some x2
def qz6 (K : Nat) (a : (List Int)) (n : Int) : Option (List Int) := qfH K (.c0 a n)
noncomputable def qu2 : Code := qcS prog 98
noncomputable def zh9 : qsS → List Fr
 | .c0 .. => [.code qu2]
 | .c1 .. => [.code (.loop (atC qu2 [1,1,1,1,1,1,1,0,1,0,1,1,0,0])), .blk 0, .code (atC qu2 [1,1,1,1,1,1,1,1])]
def zkS : qsS → St
 | .c0 a n => St.init [(tl 1 a qaF), (ti .i64 n)]
 | .c1 r28 shift low i => ⟨[(6, vi .i64 shift), (7, .c (C.row 28 0 r28.length)), (8, vi .u32 low), (9, vi .i64 i)], [(28, .row 143 1 (r28.map qaF) 0)], []⟩
def qz4 (cx : Cx) (c : qsS) (r : (List Int)) : Prop := Wk prog cx (qd8 prog 98 [[1]] (tl 1 r qaF)) (zh9 c) .normal (zkS c)
abbrev qz5 (K : Nat) : Prop := ∀ c r, qfH K c = some r → ∀ cx : Cx, cx.n = 61 → qz4 cx c r
theorem zkV {K} (ih : qz5 K) {cx} (hn : cx.n = 61) {a n} {r} (h : qfH (K + 1) (.c0 a n) = some r) : qz4 cx (.c0 a n) r := by
 rw [qfH] at h
 obtain ⟨x1, h2, h⟩ := qaU h
 rcases qa0 h with ⟨h3, h⟩ | ⟨h3, h⟩
 ·have h := oinj h; subst h
  exact wkR [rg1, rgG [oo, opI (.call [[1]] [(tl 1 a qaF)] (tl 1 x1 qaF)), oo], rgG [oo, opI (.ln (x1.length : Int)), oo], bTr, rg1] hn (aC (qa5 h2) <| aC (qdI x1 qaF) <| aC h3 <| aN)
 ·obtain ⟨h4, h⟩ := qbV h
  obtain ⟨h5, h⟩ := qbV h
  obtain ⟨h6, h⟩ := qbV h
  rcases qa0 h with ⟨h7, h⟩ | ⟨h7, h⟩
  ·exact wkG [rg1, rgG [oo, opI (.call [[1]] [(tl 1 a qaF)] (tl 1 x1 qaF)), oo], rgG [oo, opI (.ln (x1.length : Int)), oo], bFa, rg4, rg6, rgG [oo, oo, opI (.ln (x1.length : Int)), oo, oo, opI (.mk (qaF (0 : Int)) ((List.replicate (wI6 ((wI6 ((wI6 (Int.tdiv (min (max n (0 : Int)) (16777216 : Int)) (32 : Int))) + (x1.length : Int))) + (1 : Int))).toNat ((0 : Int) : Int)).map qaF)), oo], rgG [oo, oo, opI (.slR ((wI6 (Int.tdiv (min (max n (0 : Int)) (16777216 : Int)) (32 : Int))).toNat) ((wI6 ((wI6 ((wI6 (Int.tdiv (min (max n (0 : Int)) (16777216 : Int)) (32 : Int))) + (x1.length : Int))) + (1 : Int))).toNat) (0 + (wI6 (Int.tdiv (min (max n (0 : Int)) (16777216 : Int)) (32 : Int))).toNat) ((wI6 ((wI6 ((wI6 (Int.tdiv (min (max n (0 : Int)) (16777216 : Int)) (32 : Int))) + (x1.length : Int))) + (1 : Int))).toNat - (wI6 (Int.tdiv (min (max n (0 : Int)) (16777216 : Int)) (32 : Int))).toNat)), oo, opI (.cp (x1.map qaF) ((qhE (List.replicate (wI6 ((wI6 ((wI6 (Int.tdiv (min (max n (0 : Int)) (16777216 : Int)) (32 : Int))) + (x1.length : Int))) + (1 : Int))).toNat ((0 : Int) : Int)) (0 + (wI6 (Int.tdiv (min (max n (0 : Int)) (16777216 : Int)) (32 : Int))).toNat) ((wI6 ((wI6 ((wI6 (Int.tdiv (min (max n (0 : Int)) (16777216 : Int)) (32 : Int))) + (x1.length : Int))) + (1 : Int))).toNat - (wI6 (Int.tdiv (min (max n (0 : Int)) (16777216 : Int)) (32 : Int))).toNat) x1).map qaF) ((min x1.length ((wI6 ((wI6 ((wI6 (Int.tdiv (min (max n (0 : Int)) (16777216 : Int)) (32 : Int))) + (x1.length : Int))) + (1 : Int))).toNat - (wI6 (Int.tdiv (min (max n (0 : Int)) (16777216 : Int)) (32 : Int))).toNat) : Nat) : Int))], rg2, bTr, rg1, rg2, .pre [.rl 7 0 (qhE (List.replicate (wI6 ((wI6 ((wI6 (Int.tdiv (min (max n (0 : Int)) (16777216 : Int)) (32 : Int))) + (x1.length : Int))) + (1 : Int))).toNat ((0 : Int) : Int)) (0 + (wI6 (Int.tdiv (min (max n (0 : Int)) (16777216 : Int)) (32 : Int))).toNat) ((wI6 ((wI6 ((wI6 (Int.tdiv (min (max n (0 : Int)) (16777216 : Int)) (32 : Int))) + (x1.length : Int))) + (1 : Int))).toNat - (wI6 (Int.tdiv (min (max n (0 : Int)) (16777216 : Int)) (32 : Int))).toNat) x1).length, .keep [6,7,8,9] [28]]] hn (aC (qa5 h2) <| aC (qdI x1 qaF) <| aC h3 <| aC (qdI x1 qaF) <| aC h4.1 <| aC h4.2.1 <| aC h4.2.2 <| aC (quZ _ _ _ : List.replicate (wI6 ((wI6 ((wI6 (Int.tdiv (min (max n (0 : Int)) (16777216 : Int)) (32 : Int))) + (x1.length : Int))) + (1 : Int))).toNat (qaF (0 : Int)) = (List.replicate (wI6 ((wI6 ((wI6 (Int.tdiv (min (max n (0 : Int)) (16777216 : Int)) (32 : Int))) + (x1.length : Int))) + (1 : Int))).toNat ((0 : Int) : Int)).map qaF) <| aC (⟨h5.1, rfl⟩ : 0 ≤ (wI6 (Int.tdiv (min (max n (0 : Int)) (16777216 : Int)) (32 : Int))) ∧ (wI6 (Int.tdiv (min (max n (0 : Int)) (16777216 : Int)) (32 : Int))).toNat = (wI6 (Int.tdiv (min (max n (0 : Int)) (16777216 : Int)) (32 : Int))).toNat) <| aC (rfl : (wI6 ((wI6 ((wI6 (Int.tdiv (min (max n (0 : Int)) (16777216 : Int)) (32 : Int))) + (x1.length : Int))) + (1 : Int))).toNat = (wI6 ((wI6 ((wI6 (Int.tdiv (min (max n (0 : Int)) (16777216 : Int)) (32 : Int))) + (x1.length : Int))) + (1 : Int))).toNat) <| aC h5.2.1 <| aC h5.2.2.1 <| aC h5.2.2.2 <| aC (rfl : 0 + (wI6 (Int.tdiv (min (max n (0 : Int)) (16777216 : Int)) (32 : Int))).toNat = (0 + (wI6 (Int.tdiv (min (max n (0 : Int)) (16777216 : Int)) (32 : Int))).toNat)) <| aC (rfl : (wI6 ((wI6 ((wI6 (Int.tdiv (min (max n (0 : Int)) (16777216 : Int)) (32 : Int))) + (x1.length : Int))) + (1 : Int))).toNat - (wI6 (Int.tdiv (min (max n (0 : Int)) (16777216 : Int)) (32 : Int))).toNat = ((wI6 ((wI6 ((wI6 (Int.tdiv (min (max n (0 : Int)) (16777216 : Int)) (32 : Int))) + (x1.length : Int))) + (1 : Int))).toNat - (wI6 (Int.tdiv (min (max n (0 : Int)) (16777216 : Int)) (32 : Int))).toNat)) <| aC (rfl : x1.map qaF = x1.map qaF) <| aC (qzP _ _ _ _ _ h6 : qdH ((List.replicate (wI6 ((wI6 ((wI6 (Int.tdiv (min (max n (0 : Int)) (16777216 : Int)) (32 : Int))) + (x1.length : Int))) + (1 : Int))).toNat ((0 : Int) : Int)).map qaF) (0 + (wI6 (Int.tdiv (min (max n (0 : Int)) (16777216 : Int)) (32 : Int))).toNat) ((x1.map qaF).take (min (x1.map qaF).length ((wI6 ((wI6 ((wI6 (Int.tdiv (min (max n (0 : Int)) (16777216 : Int)) (32 : Int))) + (x1.length : Int))) + (1 : Int))).toNat - (wI6 (Int.tdiv (min (max n (0 : Int)) (16777216 : Int)) (32 : Int))).toNat))) = (qhE (List.replicate (wI6 ((wI6 ((wI6 (Int.tdiv (min (max n (0 : Int)) (16777216 : Int)) (32 : Int))) + (x1.length : Int))) + (1 : Int))).toNat ((0 : Int) : Int)) (0 + (wI6 (Int.tdiv (min (max n (0 : Int)) (16777216 : Int)) (32 : Int))).toNat) ((wI6 ((wI6 ((wI6 (Int.tdiv (min (max n (0 : Int)) (16777216 : Int)) (32 : Int))) + (x1.length : Int))) + (1 : Int))).toNat - (wI6 (Int.tdiv (min (max n (0 : Int)) (16777216 : Int)) (32 : Int))).toNat) x1).map qaF) <| aC (by rw [qcZ] : ((min (x1.map qaF).length ((wI6 ((wI6 ((wI6 (Int.tdiv (min (max n (0 : Int)) (16777216 : Int)) (32 : Int))) + (x1.length : Int))) + (1 : Int))).toNat - (wI6 (Int.tdiv (min (max n (0 : Int)) (16777216 : Int)) (32 : Int))).toNat) : Nat) : Int) = ((min x1.length ((wI6 ((wI6 ((wI6 (Int.tdiv (min (max n (0 : Int)) (16777216 : Int)) (32 : Int))) + (x1.length : Int))) + (1 : Int))).toNat - (wI6 (Int.tdiv (min (max n (0 : Int)) (16777216 : Int)) (32 : Int))).toNat) : Nat) : Int)) <| aC h7 <| aC r0 <| aC (by simp : (wI6 ((wI6 ((wI6 (Int.tdiv (min (max n (0 : Int)) (16777216 : Int)) (32 : Int))) + (x1.length : Int))) + (1 : Int))).toNat = (qhE (List.replicate (wI6 ((wI6 ((wI6 (Int.tdiv (min (max n (0 : Int)) (16777216 : Int)) (32 : Int))) + (x1.length : Int))) + (1 : Int))).toNat ((0 : Int) : Int)) (0 + (wI6 (Int.tdiv (min (max n (0 : Int)) (16777216 : Int)) (32 : Int))).toNat) ((wI6 ((wI6 ((wI6 (Int.tdiv (min (max n (0 : Int)) (16777216 : Int)) (32 : Int))) + (x1.length : Int))) + (1 : Int))).toNat - (wI6 (Int.tdiv (min (max n (0 : Int)) (16777216 : Int)) (32 : Int))).toNat) x1).length) <| aN) (ih _ _ h cx hn)
  ·obtain ⟨x8, h9, h⟩ := qaU h
   have h := oinj h; subst h
   exact wkR [rg1, rgG [oo, opI (.call [[1]] [(tl 1 a qaF)] (tl 1 x1 qaF)), oo], rgG [oo, opI (.ln (x1.length : Int)), oo], bFa, rg4, rg6, rgG [oo, oo, opI (.ln (x1.length : Int)), oo, oo, opI (.mk (qaF (0 : Int)) ((List.replicate (wI6 ((wI6 ((wI6 (Int.tdiv (min (max n (0 : Int)) (16777216 : Int)) (32 : Int))) + (x1.length : Int))) + (1 : Int))).toNat ((0 : Int) : Int)).map qaF)), oo], rgG [oo, oo, opI (.slR ((wI6 (Int.tdiv (min (max n (0 : Int)) (16777216 : Int)) (32 : Int))).toNat) ((wI6 ((wI6 ((wI6 (Int.tdiv (min (max n (0 : Int)) (16777216 : Int)) (32 : Int))) + (x1.length : Int))) + (1 : Int))).toNat) (0 + (wI6 (Int.tdiv (min (max n (0 : Int)) (16777216 : Int)) (32 : Int))).toNat) ((wI6 ((wI6 ((wI6 (Int.tdiv (min (max n (0 : Int)) (16777216 : Int)) (32 : Int))) + (x1.length : Int))) + (1 : Int))).toNat - (wI6 (Int.tdiv (min (max n (0 : Int)) (16777216 : Int)) (32 : Int))).toNat)), oo, opI (.cp (x1.map qaF) ((qhE (List.replicate (wI6 ((wI6 ((wI6 (Int.tdiv (min (max n (0 : Int)) (16777216 : Int)) (32 : Int))) + (x1.length : Int))) + (1 : Int))).toNat ((0 : Int) : Int)) (0 + (wI6 (Int.tdiv (min (max n (0 : Int)) (16777216 : Int)) (32 : Int))).toNat) ((wI6 ((wI6 ((wI6 (Int.tdiv (min (max n (0 : Int)) (16777216 : Int)) (32 : Int))) + (x1.length : Int))) + (1 : Int))).toNat - (wI6 (Int.tdiv (min (max n (0 : Int)) (16777216 : Int)) (32 : Int))).toNat) x1).map qaF) ((min x1.length ((wI6 ((wI6 ((wI6 (Int.tdiv (min (max n (0 : Int)) (16777216 : Int)) (32 : Int))) + (x1.length : Int))) + (1 : Int))).toNat - (wI6 (Int.tdiv (min (max n (0 : Int)) (16777216 : Int)) (32 : Int))).toNat) : Nat) : Int))], rg2, bFa, rgG [oo, .snap 59 (max 0 (0 + (wI6 ((wI6 ((wI6 (Int.tdiv (min (max n (0 : Int)) (16777216 : Int)) (32 : Int))) + (x1.length : Int))) + (1 : Int))).toNat)) ((qhE (List.replicate (wI6 ((wI6 ((wI6 (Int.tdiv (min (max n (0 : Int)) (16777216 : Int)) (32 : Int))) + (x1.length : Int))) + (1 : Int))).toNat ((0 : Int) : Int)) (0 + (wI6 (Int.tdiv (min (max n (0 : Int)) (16777216 : Int)) (32 : Int))).toNat) ((wI6 ((wI6 ((wI6 (Int.tdiv (min (max n (0 : Int)) (16777216 : Int)) (32 : Int))) + (x1.length : Int))) + (1 : Int))).toNat - (wI6 (Int.tdiv (min (max n (0 : Int)) (16777216 : Int)) (32 : Int))).toNat) x1).map qaF), opI (.call [[1]] [(TV.c (T.sl 1 ((qhE (List.replicate (wI6 ((wI6 ((wI6 (Int.tdiv (min (max n (0 : Int)) (16777216 : Int)) (32 : Int))) + (x1.length : Int))) + (1 : Int))).toNat ((0 : Int) : Int)) (0 + (wI6 (Int.tdiv (min (max n (0 : Int)) (16777216 : Int)) (32 : Int))).toNat) ((wI6 ((wI6 ((wI6 (Int.tdiv (min (max n (0 : Int)) (16777216 : Int)) (32 : Int))) + (x1.length : Int))) + (1 : Int))).toNat - (wI6 (Int.tdiv (min (max n (0 : Int)) (16777216 : Int)) (32 : Int))).toNat) x1).map qaF)))] (tl 1 x8 qaF)), oo]] hn (aC (qa5 h2) <| aC (qdI x1 qaF) <| aC h3 <| aC (qdI x1 qaF) <| aC h4.1 <| aC h4.2.1 <| aC h4.2.2 <| aC (quZ _ _ _ : List.replicate (wI6 ((wI6 ((wI6 (Int.tdiv (min (max n (0 : Int)) (16777216 : Int)) (32 : Int))) + (x1.length : Int))) + (1 : Int))).toNat (qaF (0 : Int)) = (List.replicate (wI6 ((wI6 ((wI6 (Int.tdiv (min (max n (0 : Int)) (16777216 : Int)) (32 : Int))) + (x1.length : Int))) + (1 : Int))).toNat ((0 : Int) : Int)).map qaF) <| aC (⟨h5.1, rfl⟩ : 0 ≤ (wI6 (Int.tdiv (min (max n (0 : Int)) (16777216 : Int)) (32 : Int))) ∧ (wI6 (Int.tdiv (min (max n (0 : Int)) (16777216 : Int)) (32 : Int))).toNat = (wI6 (Int.tdiv (min (max n (0 : Int)) (16777216 : Int)) (32 : Int))).toNat) <| aC (rfl : (wI6 ((wI6 ((wI6 (Int.tdiv (min (max n (0 : Int)) (16777216 : Int)) (32 : Int))) + (x1.length : Int))) + (1 : Int))).toNat = (wI6 ((wI6 ((wI6 (Int.tdiv (min (max n (0 : Int)) (16777216 : Int)) (32 : Int))) + (x1.length : Int))) + (1 : Int))).toNat) <| aC h5.2.1 <| aC h5.2.2.1 <| aC h5.2.2.2 <| aC (rfl : 0 + (wI6 (Int.tdiv (min (max n (0 : Int)) (16777216 : Int)) (32 : Int))).toNat = (0 + (wI6 (Int.tdiv (min (max n (0 : Int)) (16777216 : Int)) (32 : Int))).toNat)) <| aC (rfl : (wI6 ((wI6 ((wI6 (Int.tdiv (min (max n (0 : Int)) (16777216 : Int)) (32 : Int))) + (x1.length : Int))) + (1 : Int))).toNat - (wI6 (Int.tdiv (min (max n (0 : Int)) (16777216 : Int)) (32 : Int))).toNat = ((wI6 ((wI6 ((wI6 (Int.tdiv (min (max n (0 : Int)) (16777216 : Int)) (32 : Int))) + (x1.length : Int))) + (1 : Int))).toNat - (wI6 (Int.tdiv (min (max n (0 : Int)) (16777216 : Int)) (32 : Int))).toNat)) <| aC (rfl : x1.map qaF = x1.map qaF) <| aC (qzP _ _ _ _ _ h6 : qdH ((List.replicate (wI6 ((wI6 ((wI6 (Int.tdiv (min (max n (0 : Int)) (16777216 : Int)) (32 : Int))) + (x1.length : Int))) + (1 : Int))).toNat ((0 : Int) : Int)).map qaF) (0 + (wI6 (Int.tdiv (min (max n (0 : Int)) (16777216 : Int)) (32 : Int))).toNat) ((x1.map qaF).take (min (x1.map qaF).length ((wI6 ((wI6 ((wI6 (Int.tdiv (min (max n (0 : Int)) (16777216 : Int)) (32 : Int))) + (x1.length : Int))) + (1 : Int))).toNat - (wI6 (Int.tdiv (min (max n (0 : Int)) (16777216 : Int)) (32 : Int))).toNat))) = (qhE (List.replicate (wI6 ((wI6 ((wI6 (Int.tdiv (min (max n (0 : Int)) (16777216 : Int)) (32 : Int))) + (x1.length : Int))) + (1 : Int))).toNat ((0 : Int) : Int)) (0 + (wI6 (Int.tdiv (min (max n (0 : Int)) (16777216 : Int)) (32 : Int))).toNat) ((wI6 ((wI6 ((wI6 (Int.tdiv (min (max n (0 : Int)) (16777216 : Int)) (32 : Int))) + (x1.length : Int))) + (1 : Int))).toNat - (wI6 (Int.tdiv (min (max n (0 : Int)) (16777216 : Int)) (32 : Int))).toNat) x1).map qaF) <| aC (by rw [qcZ] : ((min (x1.map qaF).length ((wI6 ((wI6 ((wI6 (Int.tdiv (min (max n (0 : Int)) (16777216 : Int)) (32 : Int))) + (x1.length : Int))) + (1 : Int))).toNat - (wI6 (Int.tdiv (min (max n (0 : Int)) (16777216 : Int)) (32 : Int))).toNat) : Nat) : Int) = ((min x1.length ((wI6 ((wI6 ((wI6 (Int.tdiv (min (max n (0 : Int)) (16777216 : Int)) (32 : Int))) + (x1.length : Int))) + (1 : Int))).toNat - (wI6 (Int.tdiv (min (max n (0 : Int)) (16777216 : Int)) (32 : Int))).toNat) : Nat) : Int)) <| aC h7 <| aC (qeH _ _ _ (by simp) : (((qhE (List.replicate (wI6 ((wI6 ((wI6 (Int.tdiv (min (max n (0 : Int)) (16777216 : Int)) (32 : Int))) + (x1.length : Int))) + (1 : Int))).toNat ((0 : Int) : Int)) (0 + (wI6 (Int.tdiv (min (max n (0 : Int)) (16777216 : Int)) (32 : Int))).toNat) ((wI6 ((wI6 ((wI6 (Int.tdiv (min (max n (0 : Int)) (16777216 : Int)) (32 : Int))) + (x1.length : Int))) + (1 : Int))).toNat - (wI6 (Int.tdiv (min (max n (0 : Int)) (16777216 : Int)) (32 : Int))).toNat) x1).map qaF).drop 0).take ((wI6 ((wI6 ((wI6 (Int.tdiv (min (max n (0 : Int)) (16777216 : Int)) (32 : Int))) + (x1.length : Int))) + (1 : Int))).toNat) = (qhE (List.replicate (wI6 ((wI6 ((wI6 (Int.tdiv (min (max n (0 : Int)) (16777216 : Int)) (32 : Int))) + (x1.length : Int))) + (1 : Int))).toNat ((0 : Int) : Int)) (0 + (wI6 (Int.tdiv (min (max n (0 : Int)) (16777216 : Int)) (32 : Int))).toNat) ((wI6 ((wI6 ((wI6 (Int.tdiv (min (max n (0 : Int)) (16777216 : Int)) (32 : Int))) + (x1.length : Int))) + (1 : Int))).toNat - (wI6 (Int.tdiv (min (max n (0 : Int)) (16777216 : Int)) (32 : Int))).toNat) x1).map qaF) <| aC (rfl : (max 0 (0 + (wI6 ((wI6 ((wI6 (Int.tdiv (min (max n (0 : Int)) (16777216 : Int)) (32 : Int))) + (x1.length : Int))) + (1 : Int))).toNat)) = (max 0 (0 + (wI6 ((wI6 ((wI6 (Int.tdiv (min (max n (0 : Int)) (16777216 : Int)) (32 : Int))) + (x1.length : Int))) + (1 : Int))).toNat))) <| aC (qa5 h9) <| aN)
theorem zkU {K} (ih : qz5 K) {cx} (hn : cx.n = 61) {r28 shift low i} {r} (h : qfH (K + 1) (.c1 r28 shift low i) = some r) : qz4 cx (.c1 r28 shift low i) r := by
 rw [qfH] at h
 rcases qa0 h with ⟨h1, h⟩ | ⟨h1, h⟩
 ·obtain ⟨x2, h3, h⟩ := qaU h
  obtain ⟨h4, h⟩ := qbV h
  obtain ⟨x5, h6, h⟩ := qaU h
  obtain ⟨h7, h⟩ := qbV h
  exact wkG [.go, rg4, bTr, rgG [oo, oo, .op .ir, opI (.ld (qaF x2)), oo], rgG [oo, oo, oo, oo, .op .dv, oo, oo, .op .ir, opI (.st (qaF x5) ((r28.set (i.toNat) (bits .or .u32 (qi3 .u32 x2 shift) low)).map qaF))], rgG [oo, oo, oo, .op .dv, oo], rg3, .pre [.rl 7 0 (r28.set (i.toNat) (bits .or .u32 (qi3 .u32 x2 shift) low)).length, .keep [6,7,8,9] [28]]] hn (aC h1 <| aC (qb5 h3) <| aC (qc1 h3 (by simp) : i < ((r28.length : Nat) : Int)) <| aC (qc2 qaF h3 : (r28.map qaF)[(0 + i.toNat)]? = some (qaF x2)) <| aC h4 <| aC (qb5 h6) <| aC (qc1 h6 (by simp) : i < ((r28.length : Nat) : Int)) <| aC (qc2 qaF h6 : (r28.map qaF)[(0 + i.toNat)]? = some (qaF x5)) <| aC (qe8 _ _ (bits .or .u32 (qi3 .u32 x2 shift) low) _ : (r28.map qaF).set (0 + i.toNat) (qdH (qaF x5) 0 [(T.int .u32 (bits .or .u32 (qi3 .u32 x2 shift) low))]) = (r28.set (i.toNat) (bits .or .u32 (qi3 .u32 x2 shift) low)).map qaF) <| aC (Nat.zero_le _ : 0 ≤ (0 + i.toNat)) <| aC h7 <| aC r0 <| aC (by simp : r28.length = (r28.set (i.toNat) (bits .or .u32 (qi3 .u32 x2 shift) low)).length) <| aN) (ih _ _ h cx hn)
 ·obtain ⟨x2, h3, h⟩ := qaU h
  have h := oinj h; subst h
  exact wkR [.go, rg4, bFa, rgG [oo, .snap 59 (max 0 (0 + r28.length)) (r28.map qaF), opI (.call [[1]] [(tl 1 r28 qaF)] (tl 1 x2 qaF)), oo]] hn (aC h1 <| aC (qeH _ _ _ (by simp) : ((r28.map qaF).drop 0).take r28.length = r28.map qaF) <| aC (rfl : (max 0 (0 + r28.length)) = (max 0 (0 + r28.length))) <| aC (qa5 h3) <| aN)
theorem qwH : ∀ K : Nat, qz5 K
 | 0, c, r, h => by rw [qfH] at h; cases h
 | K + 1, .c0 .., r, h => fun cx hn => zkV (qwH K) hn h
 | K + 1, .c1 .., r, h => fun cx hn => zkU (qwH K) hn h
theorem qyZ {K : Nat} {a : (List Int)} {n : Int} {r : (List Int)} (h : qz6 K a n = some r) : qc7 prog 98 [(tl 1 a qaF), (ti .i64 n)] (tl 1 r qaF) :=
 qbL [[1]] (by kernel_rfl) (by simp) fun cx hn => qwH K (.c0 a n) r h cx hn
open Go.Proofs.Tryz (prog)
inductive qs6 where
 | c0 (a : qaE) (b : qaE)
def qn7 : Nat → qs6 → Option qaE
 | 0, _ => none
 | K + 1, .c0 a b =>
  bif (a.Neg == b.Neg) then
   (qz9 K a.Abs b.Abs).bind fun x2 =>
   (qkB K a.Neg x2).bind fun x4 =>
   some x4
  else
   (qwF K a.Abs b.Abs).bind fun x2 =>
   bif x2.2 then
    (qkB K a.Neg x2.1).bind fun x5 =>
    some x5
   else
    (qwF K b.Abs a.Abs).bind fun x5 =>
    (qkB K b.Neg x5.1).bind fun x7 =>
    some x7
def qrS (K : Nat) (a : qaE) (b : qaE) : Option qaE := qn7 K (.c0 a b)
noncomputable def zfT : Code := qcS prog 56
noncomputable def zi4 : qs6 → List Fr
 | .c0 .. => [.code zfT]
def zlJ : qs6 → St
 | .c0 a b => St.init [(TV.agg (qaK a)), (TV.agg (qaK b))]
def zaB (cx : Cx) (c : qs6) (r : qaE) : Prop := Wk prog cx (qd8 prog 56 [[0,1]] (TV.agg (qaK r))) (zi4 c) .normal (zlJ c)
abbrev zaC (K : Nat) : Prop := ∀ c r, qn7 K c = some r → ∀ cx : Cx, cx.n = 47 → zaB cx c r
theorem zlK {K} (_ : zaC K) {cx} (hn : cx.n = 47) {a b} {r} (h : qn7 (K + 1) (.c0 a b) = some r) : zaB cx (.c0 a b) r := by
 rw [qn7] at h
 rcases qa0 h with ⟨h1, h⟩ | ⟨h1, h⟩
 ·obtain ⟨x2, h3, h⟩ := qaU h
  obtain ⟨x4, h5, h⟩ := qaU h
  have h := oinj h; subst h
  exact wkR [rg3, rg5, bTr, .draw [.p, .p, .p, .p, .p, .p, (.call [[1], [1]] [(TV.c (T.sl 1 (a.Abs.map qaF))), (TV.c (T.sl 1 (b.Abs.map qaF)))] (tl 1 x2 qaF))] [opI (.call [[0], [1]] [(TV.c (T.bool a.Neg)), (tl 1 x2 qaF)] (TV.agg (qaK x4))), .op .p]] hn (aC h1 <| aC (zcJ h3) <| aC (qhP h5) <| aN)
 ·obtain ⟨x2, h3, h⟩ := qaU h
  rcases qa0 h with ⟨h4, h⟩ | ⟨h4, h⟩
  ·obtain ⟨x5, h6, h⟩ := qaU h
   have h := oinj h; subst h
   exact wkR [rg3, rg5, bFa, rgG [oo, oo, oo, oo, opI (.call [[1], [1]] [(TV.c (T.sl 1 (a.Abs.map qaF))), (TV.c (T.sl 1 (b.Abs.map qaF)))] (TV.tup [(false, [(T.sl 1 (x2.1.map qaF))]), (false, [(T.bool x2.2)])])), oo, oo, oo, oo, oo], rg1, bTr, rgG [oo, oo, oo, opI (.call [[0], [1]] [(TV.c (T.bool a.Neg)), (tl 1 x2.1 qaF)] (TV.agg (qaK x5))), oo]] hn (aC h1 <| aC (qtO h3) <| aC h4 <| aC (qhP h6) <| aN)
  ·obtain ⟨x5, h6, h⟩ := qaU h
   obtain ⟨x7, h8, h⟩ := qaU h
   have h := oinj h; subst h
   exact wkR [rg3, rg5, bFa, rgG [oo, oo, oo, oo, opI (.call [[1], [1]] [(TV.c (T.sl 1 (a.Abs.map qaF))), (TV.c (T.sl 1 (b.Abs.map qaF)))] (TV.tup [(false, [(T.sl 1 (x2.1.map qaF))]), (false, [(T.bool x2.2)])])), oo, oo, oo, oo, oo], rg1, bFa, rgG [oo, oo, oo, oo, opI (.call [[1], [1]] [(TV.c (T.sl 1 (b.Abs.map qaF))), (TV.c (T.sl 1 (a.Abs.map qaF)))] (TV.tup [(false, [(T.sl 1 (x5.1.map qaF))]), (false, [(T.bool x5.2)])])), oo, oo, oo, oo, oo], rgG [oo, oo, oo, opI (.call [[0], [1]] [(TV.c (T.bool b.Neg)), (tl 1 x5.1 qaF)] (TV.agg (qaK x7))), oo]] hn (aC h1 <| aC (qtO h3) <| aC h4 <| aC (qtO h6) <| aC (qhP h8) <| aN)
theorem q3W : ∀ K : Nat, zaC K
 | 0, c, r, h => by rw [qn7] at h; cases h
 | K + 1, .c0 .., r, h => fun cx hn => zlK (q3W K) hn h
theorem qp3 {K : Nat} {a : qaE} {b : qaE} {r : qaE} (h : qrS K a b = some r) : qc7 prog 56 [(TV.agg (qaK a)), (TV.agg (qaK b))] (TV.agg (qaK r)) :=
 qbL [[0,1]] (by kernel_rfl) (by simp) fun cx hn => q3W K (.c0 a b) r h cx hn
end Go.Am.X
