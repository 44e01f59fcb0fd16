/- Part 2 of the proof: Am16 .. Fn_math_bits_Div64. -/
import Derived.Test.YteciehfkhmbfeaaTa
import Derived.Scope
import Derived.Test.YteciehfkhmbfeaaProg
namespace Go.Am
open Go.RowKit (Below)
def AllP : List Prop → Prop
  | [] => True
  | p :: ps => p ∧ AllP ps
theorem AllP.append : ∀ {xs ys : List Prop}, AllP (xs ++ ys) → AllP xs ∧ AllP ys
  | [], _, h => ⟨trivial, h⟩
  | _ :: _, _, h => ⟨⟨h.1, (AllP.append h.2).1⟩, (AllP.append h.2).2⟩
inductive H where
  | p
  | ix (el : List T)
  | ir
  | ld (el : List T)
  | st (el : List T) (es : List (List T))
  | mk (zt : List T) (es : List (List T))
  | lit (es : List (List T))
  | appN (es : List (List T))
  | appR (es es2 : List (List T))
  | appT (es : List (List T))
  | call (hss : List (List Nat)) (ys : List TV) (res : TV)
  | slT (l h : Nat) (es : List (List T))
  | slR (l h off len : Nat)
  | clip (l h m off len : Nat)
  | sl0
  | ln (n : Int)
  | dv
  | sx (r : Int)
  | cp (es2 es : List (List T)) (n : Int)
  | slM (l h m : Nat) (es : List (List T))
  | litT (es : List (List T))
  | clo
  | app0
  | pk (b : Bool)
  | ia (n : Nat)
  | lit0
  | ga (b : Bool) (h : H)
def bndP (st : St) (o : Option Operand) (d r : Nat) : Option Prop :=
  match o with
  | none => some (r = d)
  | some x => match st.ev x with
    | .c (.t (.int _ n)) => some (0 ≤ n ∧ r = n.toNat)
    | _ => none
theorem qmF {st σ : St} {o : Option Operand} {d r : Nat} {p : Prop} (h : bndP st o d r = some p) (hp : p) (hs : ∀ x, o = some x → σ.ev x = st.ev x) : evB σ o d r := by
  cases o with
  | none => simp only [bndP] at h; cases h; exact hp
  | some x =>
    simp only [bndP] at h
    split at h
    · rename_i k n hx
      cases h
      exact ⟨k, n, (hs x rfl).trans hx, hp.1, hp.2⟩
    · cases h
def rkOf (st : St) (o : Oper) : List Nat := o.op.operands.toList.flatMap fun x => (st.ev x).keys
theorem zb3 (st : St) (o : Oper) : q16 st o (rkOf st o) = true := by
  simp only [q16, List.all_eq_true]
  intro x hx j hj
  simp only [List.contains_iff_mem, rkOf, List.mem_flatMap]
  exact ⟨x, hx, hj⟩
def q3B (hp : List (Nat × Blk)) (sz : Nat) : V → Option (List (List T))
  | .c (.t (.sl sz' es)) => if sz' = sz then some es else none
  | .c .nil => some []
  | .c (.row j off len) => match hp.lookup j with | some (.row _ sz' es _) => if sz' = sz then some ((es.drop off).take len) else none | _ => none
  | .c (.clip j off len) => match hp.lookup j with | some (.row _ sz' es _) => if sz' = sz then some ((es.drop off).take len) else none | _ => none
  | _ => none
theorem qwT {hp : List (Nat × Blk)} {sz : Nat} {v : V} {es : List (List T)} (h : q3B hp sz v = some es) : zd1 hp sz v es := by
  unfold q3B at h
  split at h
  · split at h
    · rename_i e; subst e; cases h; exact .t _
    · cases h
  · cases h; exact .nil
  · split at h
    · rename_i hl
      split at h
      · rename_i e; subst e; cases h; exact .row _ _ _ _ _ _ hl
      · cases h
    · cases h
  · split at h
    · rename_i hl
      split at h
      · rename_i e; subst e; cases h; exact .clip _ _ _ _ _ _ hl
      · cases h
    · cases h
  · cases h
section
variable {P : Program} {cx : Cx} {o : Oper} {st : St}
theorem q8X {d x : Operand} {t t2 : TypeId} {v u : Value} (ho : o.op = .call { callee := .builtin .copy, args := #[d, x], argTypes := #[t, t2] })
    {a : Act} {w : World} (h1 : a.eval d = v) (h2 : a.eval x = u) {r : Value} {w' : World} (hr : (Builtin.copy_ #[t, t2] o.type #[v, u]).run P w = .ok r w') : (execOp a.eval o).run P w = .ok (.value r) w' := by
  simp only [execOp, ho, resolve, Sem.run_bind, Sem.run_pure, Result.andThen_ok, invoke, builtin, List.map_toArray, List.map_cons, List.map_nil, h1, h2, hr]
theorem znE (w : World) (dT sT ty elem : TypeId) (a : Addr) (ad : Option Addr) (dLen dCap sCap : Nat) (hu : P.underlying dT = some (.slice elem)) (hs : ((P.info? elem).map (·.size)).isSome = true) :
    (Builtin.copy_ #[dT, sT] ty #[.slice (some a) dLen dCap, .slice ad 0 sCap]).run P w = .ok (goInt 0) w := by
  cases hq : P.info? elem with
  | none => simp [hq] at hs
  | some i => cases ad <;> simp [Builtin.copy_, run_underlying hu, Builtin.lenOf, Builtin.firstCells, sizeOf, typeInfo, hq, storeCells, loadCells, loadCellsFrom]
theorem zxG {t t2 : TypeId} {d x : Operand} {j off len e by' : Nat} {z : Value} {es es2 : List (List T)} (ho : o.op = .call { callee := .builtin .copy, args := #[d, x], argTypes := #[t, t2] })
    (hi : qhG P t = some (e, 1, by', z)) (hs : st.ev d = .c (.row j off len)) (hj : st.hp.lookup j = some (.row e 1 es 0)) (hn : zd1 st.hp 1 (st.ev x) es2) :
    OpOK P cx o st ((st.addB j (.row e 1 (qbW es off (es2.take (min es2.length len))) 0)).put? o.dst (.c (.t (.int .i64 ((min es2.length len : Nat) : Int))))) := by
  intro hd' a w hsim K Q hK
  obtain ⟨L, I, h⟩ := hsim
  obtain ⟨ad, cap, hx, hes2, hc⟩ := (hn.R h (h.ev x)).cells
  have hv := h.ev d
  rw [hs] at hv
  obtain ⟨g1, g2⟩ := hv e 1 es 0 hj
  obtain ⟨ii, hu, hie, hsize, _, _, _⟩ := qiL hi
  have hsz1 : (P.info? e).map (·.size) = some 1 := by rw [hie]; simp [hsize]
  obtain ⟨hB, hsz0, hcap, hmx, hes, hIf, arr, hg, hsz, hcs⟩ := h.hp j _ hj
  rw [Nat.mul_one] at g2
  have fin : ∀ (cs : List Value), cs.length = min es2.length len → (∀ (q : Nat) (y : List T) (t' : T), (es2.take (min es2.length len))[q]? = some y → y[0]? = some t' → ∃ u, cs[q]? = some u ∧ Rep w I u t') →
      SimD cx L I (st.addB j (.row e 1 (qbW es off (es2.take (min es2.length len))) 0)) a (w.setRow (L.m j) (qbW arr.toList off cs).toArray) := by
    intro cs hcl hcr
    have hn' : (es2.take (min es2.length len)).length = min es2.length len := by rw [List.length_take]; omega
    have hfit : off + cs.length ≤ arr.size := by rw [hsz]; omega
    have hget : ∀ q, (qbW arr.toList off cs).toArray[q]? = if off ≤ q ∧ q < off + cs.length then cs[q - off]? else arr[q]? := by
      intro q
      rw [List.getElem?_toArray, qzE _ _ _ (by simpa using hfit)]
      simp
    refine h.write hj hg (fun e' sz' es' fz' he => by cases he; exact ⟨es, 0, rfl, by simp only [qbW, List.length_append, List.length_take, List.length_drop]; omega⟩) (fun q hq => ?_) fun kk => ?_
    · have := hIf q hq
      omega
    · refine ⟨hB, hsz0, ?_, hmx, ?_, hIf, _, setRow_heap w _ arr _ e _ hg, ?_, ?_⟩
      · simp only [qbW, List.length_append, List.length_take, List.length_drop]; omega
      · intro y hy
        simp only [qbW, List.mem_append] at hy
        rcases hy with (hy | hy) | hy
        · exact hes y (List.mem_of_mem_take hy)
        · exact hes2 y (List.mem_of_mem_take hy)
        · exact hes y (List.mem_of_mem_drop hy)
      · simp only [List.size_toArray, qbW, List.length_append, List.length_take, List.length_drop, Array.length_toList]; omega
      · intro i' k' y t' hy' ht'
        rw [qzE _ _ _ (by rw [hn']; omega)] at hy'
        have hk' : k' = 0 := by
          have h1 := (List.getElem?_eq_some_iff.1 ht').1
          have h2 : y.length = 1 := by
            split at hy'
            · exact hes2 y (List.mem_of_mem_take (List.mem_of_getElem? hy'))
            · exact hes y (List.mem_of_getElem? hy')
          omega
        subst hk'
        rw [hget, Nat.mul_one, Nat.add_zero]
        by_cases hin : off ≤ i' ∧ i' < off + min es2.length len
        · rw [if_pos (by rw [hn']; exact hin)] at hy'
          rw [if_pos (by rw [hcl]; exact hin)]
          obtain ⟨u, q1, q2⟩ := hcr _ y t' hy' ht'
          exact ⟨u, q1, kk.rep q2⟩
        · rw [if_neg (by rw [hn']; exact hin)] at hy'
          rw [if_neg (by rw [hcl]; exact hin)]
          obtain ⟨v, q1, q2⟩ := hcs i' 0 y t' hy' ht'
          rw [Nat.mul_one, Nat.add_zero] at q1
          exact ⟨v, q1, kk.rep q2⟩
  have goI : ∀ n : Nat, goInt n = .int .i64 (n : Int) := fun n => rfl
  unfold Oper.wp
  rcases hc with rfl | ⟨b, so, rfl, news, hl, hcell, h1, hrep⟩
  · have hrun := q8X (P := P) (w := w) ho g2 hx (znE (P := P) w t t2 o.type e ⟨L.m j, off, none⟩ ad len (L.cp j - off) cap hu (by rw [hsz1]; rfl))
    rw [hrun]
    refine hK _ _ (qmZ (v := .c (.t (.int .i64 _))) (L := L) (I := I) ?_ (.int _ _) hd')
    have := fin [] (by simp) (by simp)
    have hself : (qbW arr.toList off ([] : List Value)).toArray = arr := by simp [qbW]
    rw [hself, setRow_self w _ arr e (0, 0) hg] at this
    exact this
  · have hl1 : news.length = es2.length := by rw [hl, Nat.mul_one]
    have hrun := q8X (P := P) (w := w) ho g2 hx (run_copy_row (P := P) w t t2 o.type e (L.m j) off len (L.cp j - off) ⟨b, so, none⟩ es2.length cap arr e (news.take (min es2.length len)) hu hsz1 hg
      (by rw [List.length_take, hl1]; simp only [Nat.min_def]; split <;> split <;> omega) (fun q u hq => by
        rw [List.getElem?_take] at hq
        split at hq
        · exact hcell q u hq
        · cases hq) (by rw [hsz, List.length_take, hl1]; omega) (fun u hu => h1 u (List.mem_of_mem_take hu)))
    rw [hrun]
    have hcl : (news.take (min es2.length len)).length = min es2.length len := by rw [List.length_take, hl1]; omega
    have hf := fin (news.take (min es2.length len)) hcl (fun q y t' hy ht => by
      rw [List.getElem?_take] at hy
      split at hy
      · rename_i hq
        obtain ⟨u, q1, q2⟩ := hrep q 0 y t' hy ht
        rw [Nat.mul_one, Nat.add_zero] at q1
        exact ⟨u, by rw [List.getElem?_take, if_pos hq]; exact q1, q2⟩
      · cases hy)
    rw [goI]
    unfold qbW at hf
    rw [hcl] at hf ⊢
    exact hK _ _ (qmZ (v := .c (.t (.int .i64 _))) hf (.int _ _) hd')
theorem zq9 {t : TypeId} {x ix : Operand} {s : ByteArray} {k : IntKind} {i : Int} {r : UInt8} (ho : o.op = .index t x ix) (ht : P.underlying t = some .string)
    (hx : st.ev x = .c (.t (.str s))) (hi : st.ev ix = .c (.t (.int k i))) (h0 : 0 ≤ i) (hr : s.data.toList[i.toNat]? = some r) : qeQ P cx o st (.c (.t (.int .u8 r.toNat))) := by
  intro L I a w h
  have hv := h.ev x
  rw [hx] at hv
  have hs : a.eval x = .string s := Rep.str_inv hv
  have hlt : i.toNat < s.size := by
    have := (List.getElem?_eq_some_iff.1 hr).1
    simpa using this
  refine ⟨.int .u8 r.toNat, ?_, .int _ _⟩
  have he : s[i.toNat]'hlt = r := by
    obtain ⟨q, hq⟩ := List.getElem?_eq_some_iff.1 hr
    rw [Array.getElem_toList] at hq
    exact hq
  simp [execOp, ho, hs, qiB h hi, run_index_string w t s k i ht, h0, show i < (s.size : Int) by omega, he]
end
theorem y_app0 {P : Program} {cx : Cx} {o : Oper} {st : St} {t : TypeId} {s x : Operand} {e sz by' : Nat} {z : Value} (ho : o.op = .call { callee := .builtin .append, args := #[s, x], argTypes := #[t, t] })
    (hi : qhG P t = some (e, sz, by', z)) (hs : st.ev s = .c .nil) (hn : zd1 st.hp sz (st.ev x) []) : qeQ P cx o st (.c .nil) := by
  intro L I a w h
  obtain ⟨ad, cap, hx, _, _⟩ := hn.R h (h.ev x)
  have hv := h.ev s
  rw [hs] at hv
  obtain ⟨aas, hsv⟩ := hv
  obtain ⟨i, hu, hie, rfl, rfl, hz0, hzs⟩ := qiL hi
  have hr : (Builtin.append_ #[t, t] o.type #[.slice aas 0 0, .slice ad 0 cap]).run P w = .ok (.slice aas 0 0) w := by
    cases ad <;> cases aas <;>
      simp [Builtin.append_, run_underlying hu, qrB hie, Builtin.lenOf, Builtin.firstCells, loadCells, loadCellsFrom, storeCells]
  exact ⟨_, qkU ho hsv hx hr, aas, rfl⟩
section
variable {P : Program} {cx : Cx} {o : Oper} {st : St}
theorem zxF {t : TypeId} {e sz by' : Nat} {z : Value} (ho : o.op = .buildSlice t 0 #[]) (hi : qhG P t = some (e, sz, by', z)) : OpOK P cx o st (st.put? o.dst (.c .nil)) := by
  intro hd' a w hs K Q hK
  obtain ⟨L, I, h⟩ := hs
  obtain ⟨i, hu, hie, rfl, rfl, hz0, hzs⟩ := qiL hi
  have hrun : (execOp a.eval o).run P w = .ok (.value (.slice (some ⟨w.heap.size, 0, none⟩) 0 0)) (w.alloc (.cells #[] e)) := by
    have hb : (Instr.buildSlice t 0 #[]).run P w = .ok (.slice (some ⟨w.heap.size, 0, none⟩) 0 0) (w.alloc (.cells #[] e)) := by
      simp [Instr.buildSlice, run_underlying hu, sizeOf, typeInfo, hie, Instr.fill, newRow]
      congr 2
      exact Array.eq_empty_of_size_eq_zero (by simp)
    simp [execOp, ho, hb]
  have h' := h.after (I' := I) (w' := w.alloc (.cells #[] e)) ((Below.refl _ _).alloc (Nat.le_refl _) _) (fun _ _ h => h) (fun _ _ h => .inl h) (fun b o hb => by have := h.ib b o hb; simp; omega)
  unfold Oper.wp
  rw [hrun]
  exact hK _ _ (qmZ h' ⟨_, rfl⟩ hd')
end
theorem zxD {P : Program} {cx : Cx} {o : Oper} {st : St} {j e sz n : Nat} {es : List (List T)} (h : OpOK P cx o st ((st.addB j (.row e sz es 0)).put j (.c (.row j 0 n)))) (hl : es.length = n) (hjn : st.hp.lookup j = none) :
    OpOK P cx o st (st.put j (.c (.t (.sl sz es)))) := by
  subst hl
  intro hd' a w hsim K Q hK
  refine h hd' a w hsim K Q fun a' w' hs' => hK a' w' ?_
  have h1 : ((st.addB j (.row e sz es 0)).put j (.c (.row j 0 es.length))).tm.lookup j = some (.c (.row j 0 es.length)) := by rw [St.put_lookup]; simp
  have h2 := Sim.snap (e := e) (sz := sz) (es := es) (fz := 0) hs' h1 (by show (st.addB j _).hp.lookup j = _; rw [St.addB_lookup, if_pos rfl])
  have h3 : ((es.drop 0).take es.length) = es := by simp
  rw [h3] at h2
  obtain ⟨L, I, h2⟩ := h2
  refine ⟨L, I, h2.sub ?_ ?_ rfl⟩
  · intro k v hv
    rw [St.put_lookup] at hv ⊢
    split at hv
    · rename_i e; subst e; simpa using hv
    · rename_i hne
      rw [if_neg hne]
      show ((st.addB j (.row e sz es 0)).put j (.c (.row j 0 es.length))).tm.lookup k = _
      rw [St.put_lookup, if_neg hne]; exact hv
  · intro k b hb
    have hne : k ≠ j := fun e => by subst e; rw [show (st.put k _).hp.lookup k = st.hp.lookup k from rfl, hjn] at hb; cases hb
    show (((st.addB j (.row e sz es 0)).put j (.c (.row j 0 es.length))).addB j (.row e sz es (max 0 (0 + es.length)))).hp.lookup k = _
    rw [St.addB_lookup, if_neg hne]
    show (st.addB j _).hp.lookup k = _
    rw [St.addB_lookup, if_neg hne]; exact hb
def capOf : V → Option Cap
  | .c (.ptr j k) => some (.ptr j k)
  | .c (.t x) => some (.t x)
  | _ => none
def zo6 : List V → Option (List Cap)
  | [] => some []
  | v :: vs => match capOf v, zo6 vs with
    | some x, some xs => some (x :: xs)
    | _, _ => none
theorem zjZ : ∀ {vs : List V} {xs : List Cap}, zo6 vs = some xs → vs = xs.map capV
  | [], xs, h => by simp only [zo6] at h; cases h; rfl
  | v :: vs, xs, h => by
    simp only [zo6] at h
    split at h
    · rename_i x xs' h1 h2
      cases h
      rw [zjZ h2, List.map_cons]
      congr 1
      unfold capOf at h1
      split at h1 <;> cases h1 <;> rfl
    · cases h
def infO (P : Program) (st : St) (o : Oper) : H → Option (Inf × List Prop)
  | .p => match o.op with
    | .alloc t => match o.dst, (P.info? t).bind (·.zero) with
      | some j, some z => if z.cells.all (·.oneCell') then some (⟨[], [j], ⟨some (j, .c (.ptr j 0)), some (j, .var (z.cells.toList.map qpU))⟩⟩, []) else none
      | _, _ => none
    | .box _ x => match o.dst, (st.ev x).cellsL st.hp with
      | some j, some xs => if qpT (some j) xs then some (⟨rkOf st o, [j], ⟨some (j, .c (.ptr j 0)), some (j, .var xs)⟩⟩, []) else none
      | _, _ => none
    | .store t p x => match o.dst, st.ev p with
      | none, .c (.ptr j k) => match st.hp.lookup j, (st.ev x).cellsL st.hp, (P.info? t).map (·.size) with
        | some (.var cs), some xs, some n => if xs.length = n ∧ k + n ≤ cs.length then some (⟨rkOf st o, [], ⟨none, some (j, .var (qbW cs k xs))⟩⟩, []) else none
        | _, _, _ => none
      | _, _ => none
    | op => (qoL P st.hp st.ev op).map fun v => (⟨rkOf st o, [], ⟨o.dst.map fun t => (t, v), none⟩⟩, [])
  | .ix el => match o.op with
    | .indexAddr t x ix => match st.ev x, st.ev ix, qiE P t with
      | .c (.t (.sl sz es)), .c (.t (.int _ i)), some sz' => if sz = sz' then some (⟨[], [], ⟨o.dst.map fun t => (t, .c (.ep el 0)), none⟩⟩, [0 ≤ i, es[i.toNat]? = some el]) else none
      | _, _, _ => none
    | _ => none
  | .ir => match o.op with
    | .indexAddr t x ix => match st.ev x, st.ev ix, qiE P t with
      | .c (.row j off len), .c (.t (.int _ i)), some sz' => match st.hp.lookup j with
        | some (.row _ sz _ _) => if sz = sz' then some (⟨rkOf st o, [], ⟨o.dst.map fun t => (t, .c (.rptr j (off + i.toNat) 0)), none⟩⟩, [0 ≤ i, i < len]) else none
        | _ => none
      | _, _, _ => none
    | _ => none
  | .ld el => match o.op with
    | .load t x => match st.ev x, qsK P t with
      | .c (.rptr j i k), some (false, _) => match st.hp.lookup j, el[k]? with
        | some (.row _ _ es _), some y => some (⟨rkOf st o, [], ⟨o.dst.map fun t => (t, .c (.t y)), none⟩⟩, [es[i]? = some el])
        | _, _ => none
      | .c (.rptr j i k), some (true, n) => match st.hp.lookup j with
        | some (.row _ _ es _) => if ((el.drop k).take n).length = n then some (⟨rkOf st o, [], ⟨o.dst.map fun t => (t, .agg (((el.drop k).take n).map .t)), none⟩⟩, [es[i]? = some el]) else none
        | _ => none
      | _, _ => none
    | _ => none
  | .st el es' => match o.op, o.dst with
    | .store t p x, none => match st.ev p with
      | .c (.rptr j i k) => match st.hp.lookup j, (st.ev x).cellsL st.hp, (P.info? t).map (·.size) with
        | some (.row e sz es fz), some xs, some n => match qs8 (fun _ => 0) 0 xs with
          | some ys => if ys.length = n ∧ k + n ≤ sz then some (⟨rkOf st o, [], ⟨none, some (j, .row e sz es' fz)⟩⟩, [es[i]? = some el, es.set i (qbW el k ys) = es', fz ≤ i]) else none
          | none => none
        | _, _, _ => none
      | _ => none
    | _, _ => none
  | .mk zt es' => match o.op, o.dst with
    | .makeSlice t l c, some j => match st.ev l, st.ev c, qhG P t with
      | .c (.t (.int _ n)), .c (.t (.int _ m)), some (e, sz, by', z) => if 0 < sz ∧ 0 < by' ∧ q8H z.cells.toList zt = true then
          some (⟨[], [j], ⟨some (j, .c (.row j 0 n.toNat)), some (j, .row e sz es' 0)⟩⟩, [0 ≤ n, n ≤ m, (by' : Int) * m ≤ 140737488355328, List.replicate n.toNat zt = es']) else none
      | _, _, _ => none
    | _, _ => none
  | .lit es => match o.op, o.dst with
    | .buildSlice t len parts, some j => match qhG P t, qt2 st parts.toList with
      | some (e, sz, _, z), some qs => match znQ (fun i => some (i * sz, sz)) (((Array.range (len * sz)).map (z.cells[· % z.cells.size]!)).toList.map qpU) qs with
        | some ds => match qs8 (fun _ => 0) 0 ds with
          | some fl => if 0 < sz ∧ z.cells.all (·.oneCell') = true ∧ 0 < len ∧ len * sz ≤ 16777216 ∧ es.all (fun x => x.length == sz) = true ∧ es.length = len then
              some (⟨rkOf st o, [j], ⟨some (j, .c (.row j 0 len)), some (j, .row e sz es 0)⟩⟩, [fl = es.flatten]) else none
          | none => none
        | none => none
      | _, _ => none
    | _, _ => none
  | .call hss _ res => match o.op with
    | .call { callee := .value x, args, argTypes := _ } => match st.ev x, zj5 st hss args.toList with
      | .c (.t (.fn f)), some ys => if qs4 P f then some (⟨[], [], ⟨o.dst.map fun t => (t, res.toV), none⟩⟩, [qc5 P f ys res]) else none
      | _, _ => none
    | _ => none
  | .slT l h es' => match o.op with
    | .slice t x lo hi none => match st.ev x, qiE P t with
      | .c (.t (.sl sz es)), some sz' => match bndP st lo 0 l, bndP st hi es.length h with
        | some p, some q => if sz = sz' then some (⟨[], [], ⟨o.dst.map fun t => (t, .c (.t (.sl sz es'))), none⟩⟩, [p, q, l ≤ h, h ≤ es.length, (es.take h).drop l = es']) else none
        | _, _ => none
      | _, _ => none
    | _ => none
  | .slR l h off' len' => match o.op with
    | .slice t x lo hi none => match st.ev x, qiE P t with
      | .c (.row j off len), some sz' => match st.hp.lookup j, bndP st lo 0 l, bndP st hi len h with
        | some (.row _ sz _ _), some p, some q => if sz = sz' then some (⟨rkOf st o, [], ⟨o.dst.map fun t => (t, .c (.row j off' len')), none⟩⟩, [p, q, l ≤ h, h ≤ len, l = 0 ∨ l < len, off + l = off', h - l = len']) else none
        | _, _, _ => none
      | .c .nil, some _ => match bndP st lo 0 0, bndP st hi 0 0 with
        | some p, some q => some (⟨[], [], ⟨o.dst.map fun t => (t, .c .nil), none⟩⟩, [p, q])
        | _, _ => none
      | _, _ => none
    | _ => none
  | .sl0 => match o.op with
    | .slice t x none (some y) (some z) => match st.ev x, st.ev y, st.ev z, qiE P t with
      | .c (.t (.sl sz _)), .c (.t (.int _ n)), .c (.t (.int _ m)), some sz' => if sz = sz' ∧ n = 0 ∧ m = 0 then some (⟨[], [], ⟨o.dst.map fun t => (t, .c .nil), none⟩⟩, []) else none
      | _, _, _, _ => none
    | _ => none
  | .clip l h m off' len' => match o.op with
    | .slice t x lo (some hi) (some mx) => match st.ev x, qiE P t with
      | .c (.row j off len), some sz' => match st.hp.lookup j, bndP st lo 0 l, bndP st (some hi) len h, bndP st (some mx) 0 m with
        | some (.row _ sz _ _), some p, some q, some r => if sz = sz' then some (⟨rkOf st o, [], ⟨o.dst.map fun t => (t, .c (.clip j off' len')), none⟩⟩, [p, q, r, l ≤ h, h ≤ m, m ≤ len, l = 0 ∨ l < m, off + l = off', h - l = len']) else none
        | _, _, _, _ => none
      | _, _ => none
    | _ => none
  | .appN es' => match o.op, o.dst with
    | .call { callee := .builtin .append, args, argTypes }, some j => match args.toList, argTypes.toList with
      | [s, x], [t, t'] => match st.ev s, qhG P t with
        | .c .nil, some (e, sz, by', _) => match q3B st.hp sz (st.ev x) with
          | some es => if t = t' ∧ 0 < sz then some (⟨rkOf st o, [j], ⟨some (j, .c (.row j 0 es'.length)), some (j, .row e sz es' 0)⟩⟩, [es = es', 0 < es'.length, es'.length * by' ≤ 140737488355328, es'.length ≤ maxLen]) else none
          | none => none
        | _, _ => none
      | _, _ => none
    | _, _ => none
  | .ln n => match o.op with
    | .call { callee := .builtin .len, args, argTypes } => match args.toList, argTypes.toList with
      | [x], [t] => match st.ev x with
        | .c (.t (.sl _ es)) => if (qiE P t).isSome then some (⟨[], [], ⟨o.dst.map fun d => (d, intV .i64 n), none⟩⟩, [(es.length : Int) = n]) else none
        | _ => none
      | _, _ => none
    | _ => none
  | .dv => match o.op with
    | .binOp op _ x y _ => match st.ev x, st.ev y with
      | .c (.t (.int k m)), .c (.t (.int k' n)) => match op with
        | .quo => if k = k' then some (⟨[], [], ⟨o.dst.map fun d => (d, intV k (k.wrap (m.tdiv n))), none⟩⟩, [n ≠ 0]) else none
        | .rem => if k = k' then some (⟨[], [], ⟨o.dst.map fun d => (d, intV k (m.tmod n)), none⟩⟩, [n ≠ 0]) else none
        | .shl => some (⟨[], [], ⟨o.dst.map fun d => (d, intV k (qhT k m n)), none⟩⟩, [0 ≤ n])
        | .shr => some (⟨[], [], ⟨o.dst.map fun d => (d, intV k (qd2 k m n)), none⟩⟩, [0 ≤ n])
        | _ => none
      | _, _ => none
    | _ => none
  | .sx r => match o.op with
    | .index t x ix => match st.ev x, st.ev ix with
      | .c (.t (.str s)), .c (.t (.int _ i)) => if zuY P t = true then some (⟨[], [], ⟨o.dst.map fun d => (d, intV .u8 r), none⟩⟩, [0 ≤ i, (s.data.toList.map fun c => (c.toNat : Int))[i.toNat]? = some r]) else none
      | _, _ => none
    | _ => none
  | .cp es2 es' n => match o.op with
    | .call { callee := .builtin .copy, args, argTypes } => match args.toList, argTypes.toList with
      | [d, x], [t, _] => match st.ev d, qhG P t with
        | .c (.row j off len), some (e, 1, _, _) => match st.hp.lookup j, q3B st.hp 1 (st.ev x) with
          | some (.row e' 1 es 0), some new => if e = e' then some (⟨rkOf st o, [], ⟨o.dst.map fun q => (q, intV .i64 n), some (j, .row e 1 es' 0)⟩⟩, [new = es2, qbW es off (es2.take (min es2.length len)) = es', ((min es2.length len : Nat) : Int) = n]) else none
          | _, _ => none
        | _, _ => none
      | _, _ => none
    | _ => none
  | .slM l h m es' => match o.op with
    | .slice t x lo (some hi) (some mx) => match st.ev x, qiE P t with
      | .c (.t (.sl sz es)), some sz' => match bndP st lo 0 l, bndP st (some hi) es.length h, bndP st (some mx) 0 m with
        | some p, some q, some r => if sz = sz' then some (⟨[], [], ⟨o.dst.map fun t => (t, .c (.t (.sl sz es'))), none⟩⟩, [p, q, r, l ≤ h, h ≤ m, m ≤ es.length, (es.take h).drop l = es']) else none
        | _, _, _ => none
      | _, _ => none
    | _ => none
  | .litT es => match o.op, o.dst with
    | .buildSlice t len parts, some j => match qhG P t, qt2 st parts.toList, st.hp.lookup j with
      | some (_, sz, _, z), some qs, none => match znQ (fun i => some (i * sz, sz)) (((Array.range (len * sz)).map (z.cells[· % z.cells.size]!)).toList.map qpU) qs with
        | some ds => match qs8 (fun _ => 0) 0 ds with
          | some fl => if 0 < sz ∧ z.cells.all (·.oneCell') = true ∧ 0 < len ∧ len * sz ≤ 16777216 ∧ es.all (fun x => x.length == sz) = true ∧ es.length = len then
              some (⟨j :: rkOf st o, [j], ⟨some (j, .c (.t (.sl sz es))), none⟩⟩, [fl = es.flatten]) else none
          | none => none
        | none => none
      | _, _, _ => none
    | _, _ => none
  | .clo => match o.op with
    | .makeFunc (.func f) first captured => match zo6 (captured.toList.map st.ev) with
      | some caps => if first = #[] then some (⟨[], [], ⟨o.dst.map fun t => (t, .c (.fn f caps)), none⟩⟩, []) else none
      | none => none
    | _ => none
  | .app0 => match o.op with
    | .call { callee := .builtin .append, args, argTypes } => match args.toList, argTypes.toList with
      | [s, x], [t, t'] => match st.ev s, qhG P t with
        | .c .nil, some (_, sz, _, _) => match q3B st.hp sz (st.ev x) with
          | some new => if t = t' then some (⟨rkOf st o, [], ⟨o.dst.map fun q => (q, .c .nil), none⟩⟩, [new = []]) else none
          | none => none
        | _, _ => none
      | _, _ => none
    | _ => none
  | .pk b => match o.op with
    | .pick c x y => match st.ev c with
      | .c (.t (.bool b')) => some (⟨[], [], ⟨o.dst.map fun t => (t, match b with | true => st.ev x | false => st.ev y), none⟩⟩, [b' = b])
      | _ => none
    | _ => none
  | .ia n => match o.op with
    | .indexAddr t x ix => match st.ev x, st.ev ix, zj3 P t with
      | .c (.ptr j q), .c (.t (.int _ i)), some (m, sz) => if n < m ∧ (st.hp.lookup j).isSome then some (⟨rkOf st o, [], ⟨o.dst.map fun t => (t, .c (.ptr j (q + n * sz))), none⟩⟩, [i = (n : Int)]) else none
      | .c (.ep el q), .c (.t (.int _ i)), some (m, sz) => if n < m then some (⟨rkOf st o, [], ⟨o.dst.map fun t => (t, .c (.ep el (q + n * sz))), none⟩⟩, [i = (n : Int)]) else none
      | .c (.rptr j r q), .c (.t (.int _ i)), some (m, sz) => match st.hp.lookup j with
        | some (.row ..) => if n < m then some (⟨rkOf st o, [], ⟨o.dst.map fun t => (t, .c (.rptr j r (q + n * sz))), none⟩⟩, [i = (n : Int)]) else none
        | _ => none
      | _, _, _ => none
    | _ => none
  | .lit0 => match o.op with
    | .buildSlice t 0 parts => match qhG P t with
      | some _ => if parts = #[] then some (⟨[], [], ⟨o.dst.map fun q => (q, .c .nil), none⟩⟩, []) else none
      | none => none
    | _ => none
  | _ => none
section
variable {P : Program} {cx : Cx} {o : Oper} {st : St}
theorem qoF {σ : St} (h : zeI st σ (rkOf st o)) {x : Operand} (hx : x ∈ o.op.operands.toList) {j : Nat} (hj : j ∈ (st.ev x).keys) : σ.hp.lookup j = st.hp.lookup j :=
  qo4 h j (by simp only [rkOf, List.mem_flatMap]; exact ⟨x, hx, hj⟩)
theorem q3A {hp hp' : List (Nat × Blk)} {sz : Nat} {v : V} (h : ∀ j ∈ v.keys, hp'.lookup j = hp.lookup j) : q3B hp' sz v = q3B hp sz v := by
  cases v with
  | c x =>
    cases x with
    | row j off len => simp only [q3B]; rw [h j (by simp [V.keys, C.keys])]
    | clip j off len => simp only [q3B]; rw [h j (by simp [V.keys, C.keys])]
    | t y => cases y <;> rfl
    | _ => rfl
  | agg => rfl
  | tup => rfl
theorem zpW : ∀ {h : H} {i : Inf} {φs : List Prop}, infO P st o h = some (i, φs) → AllP φs → Eff P cx o st i.rk i.fresh i.u
  | .p, i, φs, h, _ => by
    simp only [infO] at h
    split at h
    · rename_i t hop
      split at h
      · rename_i j z hd hz
        split at h
        · rename_i hc; cases h; exact ztK hop hd hz hc rfl
        · cases h
      · cases h
    · rename_i t x hop
      split at h
      · rename_i j xs hd hx
        split at h
        · rename_i hc; cases h; exact zxO hop hd hx (zb3 st o) hc
        · cases h
      · cases h
    · rename_i t p x hop
      split at h
      · rename_i j k hd hp
        split at h
        · rename_i cs xs n hj hx hn
          split at h
          · rename_i hc
            cases h
            exact ztI hop hd hp hj hx hc.1 hn hc.2 (zb3 st o)
          · cases h
        · cases h
      · cases h
    · obtain ⟨v, h1, h2⟩ := Option.map_eq_some_iff.1 h
      cases h2
      exact zvB h1 (zb3 st o)
  | .ix el, i, φs, h, hφ => by
    simp only [infO] at h
    split at h
    · rename_i t x ix hop
      split at h
      · rename_i sz es k n sz' hx hi hs
        split at h
        · rename_i e; subst e
          cases h
          obtain ⟨h0, he, _⟩ := hφ
          exact qjG fun σ hev _ => zuD hop hs ((qaZ hev x (by rw [hop]; simp [Op.operands])).trans hx) ((qaZ hev ix (by rw [hop]; simp [Op.operands])).trans hi) h0 he
        · cases h
      · cases h
    · cases h
  | .ir, i, φs, h, hφ => by
    simp only [infO] at h
    split at h
    · rename_i t x ix hop
      split at h
      · rename_i j off len k n sz' hx hi hs
        split at h
        · rename_i hj
          split at h
          · rename_i e; subst e
            cases h
            obtain ⟨h0, h1, _⟩ := hφ
            have hxo : x ∈ o.op.operands.toList := by rw [hop]; simp [Op.operands]
            exact qjG fun σ hev hb => zwX hop hs ((qaZ hev x hxo).trans hx) ((qoF hb hxo (by rw [hx]; simp [V.keys, C.keys])).trans hj) ((qaZ hev ix (by rw [hop]; simp [Op.operands])).trans hi) h0 h1
          · cases h
        · cases h
      · cases h
    · cases h
  | .ld el, i, φs, h, hφ => by
    simp only [infO] at h
    split at h
    · rename_i t x hop
      have hxo : x ∈ o.op.operands.toList := by rw [hop]; simp [Op.operands]
      split at h
      · rename_i j q k n hx hl
        split at h
        · rename_i y hj hy
          cases h
          exact qjG fun σ hev hb => zwU hop hl ((qaZ hev x hxo).trans hx) ((qoF hb hxo (by rw [hx]; simp [V.keys, C.keys])).trans hj) hφ.1 hy
        · cases h
      · rename_i j q k n hx hl
        split at h
        · rename_i hj
          split at h
          · rename_i hn
            cases h
            exact qjG fun σ hev hb => zuB hop hl ((qaZ hev x hxo).trans hx) ((qoF hb hxo (by rw [hx]; simp [V.keys, C.keys])).trans hj) hφ.1 rfl hn
          · cases h
        · cases h
      · cases h
    · cases h
  | .st el es', i, φs, h, hφ => by
    simp only [infO] at h
    split at h
    · rename_i t p x hop hd
      split at h
      · rename_i j q k hp
        split at h
        · rename_i e sz es fz xs n hj hx hn
          split at h
          · rename_i ys hy
            split at h
            · rename_i hc
              cases h
              obtain ⟨h1, h2, h3, _⟩ := hφ
              subst h2
              exact zrS _ hop hd hp hj h1 hx hy hc.1 hn hc.2 h3 (zb3 st o)
            · cases h
          · cases h
        · cases h
      · cases h
    · cases h
  | .mk zt es', i, φs, h, hφ => by
    simp only [infO] at h
    split at h
    · rename_i t l c j hop hd
      split at h
      · rename_i kl n kc m e sz by' z hl hc hi
        split at h
        · rename_i hh
          cases h
          obtain ⟨h0, h1, h2, h3, _⟩ := hφ
          subst h3
          obtain ⟨h4, h5, h6⟩ := hh
          intro σ hev _ hf
          have hm : m ≤ (by' : Int) * m := by
            have h7 : (1 : Int) ≤ (by' : Int) := by omega
            have := Int.mul_le_mul_of_nonneg_right h7 (show (0 : Int) ≤ m by omega)
            omega
          exact zxE hop hd ((qaZ hev l (by rw [hop]; simp [Op.operands])).trans hl) ((qaZ hev c (by rw [hop]; simp [Op.operands])).trans hc) h0 h1 (by omega) (by omega) hi h4 h6 (hf j (by simp))
        · cases h
      · cases h
    · cases h
  | .lit es, i, φs, h, hφ => by
    simp only [infO] at h
    split at h
    · rename_i t len parts j hop hd
      split at h
      · rename_i e sz by' z qs hi hq
        split at h
        · rename_i ds hfl
          split at h
          · rename_i fl htr
            split at h
            · rename_i hc
              cases h
              obtain ⟨h1, h2, h3, h4, h5, h6⟩ := hc
              have hfe := hφ.1
              subst hfe
              exact ztJ _ hop hd hi h1 h2 h3 h4 hq hfl htr (fun x hx => by simpa using List.all_eq_true.1 h5 x hx) h6 (zb3 st o)
            · cases h
          · cases h
        · cases h
      · cases h
    · cases h
  | .call hss ys res, i, φs, h, hφ => by
    simp only [infO] at h
    split at h
    · rename_i x args tys hop
      split at h
      · rename_i f ys hx ha
        split at h
        · rename_i hc
          cases h
          have hop' : o.op = .call { callee := .value x, args := args.toList.toArray, argTypes := tys } := by simpa using hop
          exact zvC hop' hx hc ha hφ.1
        · cases h
      · cases h
    · cases h
  | .slT l hh es', i, φs, h, hφ => by
    simp only [infO] at h
    split at h
    · rename_i t x lo hi hop
      split at h
      · rename_i sz es sz' hx hs
        split at h
        · rename_i p q hp hq
          split at h
          · rename_i e; subst e
            cases h
            obtain ⟨h1, h2, h3, h4, h5, _⟩ := hφ
            subst h5
            exact qjG fun σ hev _ => zp7 hop hs ((qaZ hev x (by rw [hop]; simp [Op.operands])).trans hx)
              (qmF hp h1 fun y hy => qaZ hev y (by rw [hop]; subst hy; simp [Op.operands]))
              (qmF hq h2 fun y hy => qaZ hev y (by rw [hop]; subst hy; simp [Op.operands])) (.inl rfl) (m := 0) h3 h4
          · cases h
        · cases h
      · cases h
    · cases h
  | .slR l hh off' len', i, φs, h, hφ => by
    simp only [infO] at h
    split at h
    · rename_i t x lo hi hop
      have hxo : x ∈ o.op.operands.toList := by rw [hop]; simp [Op.operands]
      split at h
      · rename_i j off len sz' hx hs
        split at h
        · rename_i p q hj hp hq
          split at h
          · rename_i e; subst e
            cases h
            obtain ⟨h1, h2, h3, h4, h5, h6, h7, _⟩ := hφ
            subst h6; subst h7
            exact qjG fun σ hev hb => zt8 hop hs ((qaZ hev x hxo).trans hx) ((qoF hb hxo (by rw [hx]; simp [V.keys, C.keys])).trans hj)
              (qmF hp h1 fun y hy => qaZ hev y (by rw [hop]; subst hy; simp [Op.operands]))
              (qmF hq h2 fun y hy => qaZ hev y (by rw [hop]; subst hy; simp [Op.operands])) h3 h4 h5
          · cases h
        · cases h
      · rename_i sz' hx hs
        split at h
        · rename_i p q hp hq
          cases h
          obtain ⟨h1, h2, _⟩ := hφ
          exact qjG fun σ hev hb => zt9 hop hs ((qaZ hev x hxo).trans hx)
              (qmF hp h1 fun y hy => qaZ hev y (by rw [hop]; subst hy; simp [Op.operands]))
              (qmF hq h2 fun y hy => qaZ hev y (by rw [hop]; subst hy; simp [Op.operands]))
        · cases h
      · cases h
    · cases h
  | .sl0, i, φs, h, _ => by
    simp only [infO] at h
    split at h
    · rename_i t x y z hop
      split at h
      · rename_i sz es k n k' m sz' hx hy hz hs
        split at h
        · rename_i hc
          obtain ⟨rfl, rfl, rfl⟩ := hc
          cases h
          exact qjG fun σ hev _ => zuA hop hs ((qaZ hev x (by rw [hop]; simp [Op.operands])).trans hx) ((qaZ hev y (by rw [hop]; simp [Op.operands])).trans hy) ((qaZ hev z (by rw [hop]; simp [Op.operands])).trans hz)
        · cases h
      · cases h
    · cases h
  | .clip l hh m off' len', i, φs, h, hφ => by
    simp only [infO] at h
    split at h
    · rename_i t x lo hi mx hop
      have hxo : x ∈ o.op.operands.toList := by rw [hop]; simp [Op.operands]
      split at h
      · rename_i j off len sz' hx hs
        split at h
        · rename_i p q r hj hp hq hr
          split at h
          · rename_i e; subst e
            cases h
            obtain ⟨h1, h2, h3, h4, h5, h6, h7, h8, h9, _⟩ := hφ
            subst h8; subst h9
            exact qjG fun σ hev hb => zr1 hop hs ((qaZ hev x hxo).trans hx) ((qoF hb hxo (by rw [hx]; simp [V.keys, C.keys])).trans hj)
              (qmF hp h1 fun y hy => qaZ hev y (by rw [hop]; subst hy; simp [Op.operands]))
              (qmF hq h2 fun y hy => qaZ hev y (by rw [hop]; cases hy; simp [Op.operands])) rfl rfl
              (qmF hr h3 fun y hy => qaZ hev y (by rw [hop]; cases hy; simp [Op.operands])) h4 h5 h6 h7
          · cases h
        · cases h
      · cases h
    · cases h
  | .appN es', i, φs, h, hφ => by
    simp only [infO] at h
    split at h
    · rename_i args tys j hop hd
      split at h
      · rename_i s x t t' ha ht
        have ha' : args = #[s, x] := by rw [← Array.toArray_toList (xs := args), ha]
        have ht' : tys = #[t, t'] := by rw [← Array.toArray_toList (xs := tys), ht]
        subst ha'; subst ht'
        split at h
        · rename_i e sz by' z hs hi
          split at h
          · rename_i es hn
            split at h
            · rename_i hc
              obtain ⟨rfl, hsz⟩ := hc
              cases h
              obtain ⟨h1, h2, h3, h4, _⟩ := hφ
              subst h1
              intro σ hev hb hf
              have hso : s ∈ o.op.operands.toList := by rw [hop]; simp [Op.operands, Call.operands]
              have hxo : x ∈ o.op.operands.toList := by rw [hop]; simp [Op.operands, Call.operands]
              refine zmX hop hd hi hsz ((qaZ hev s hso).trans hs) (qwT ?_) h2 h3 h4 (hf j (by simp))
              rw [qaZ hev x hxo, q3A fun k hk => qoF hb hxo hk]
              exact hn
            · cases h
          · cases h
        · cases h
      · cases h
    · cases h
  | .ln n, i, φs, h, hφ => by
    simp only [infO] at h
    split at h
    · rename_i args tys hop
      split at h
      · rename_i x t ha ht
        have ha' : args = #[x] := by rw [← Array.toArray_toList (xs := args), ha]
        have ht' : tys = #[t] := by rw [← Array.toArray_toList (xs := tys), ht]
        subst ha'; subst ht'
        split at h
        · rename_i sz es hx
          split at h
          · rename_i hs
            obtain ⟨sz', hs⟩ := Option.isSome_iff_exists.1 hs
            cases h
            rw [← hφ.1]
            exact qjG fun σ hev _ => zvS hop hs ((qaZ hev x (by rw [hop]; simp [Op.operands, Call.operands])).trans hx)
          · cases h
        · cases h
      · cases h
    · cases h
  | .dv, i, φs, h, hφ => by
    simp only [infO] at h
    split at h
    · rename_i op t x y t' hop
      have hxo : x ∈ o.op.operands.toList := by rw [hop]; simp [Op.operands]
      have hyo : y ∈ o.op.operands.toList := by rw [hop]; simp [Op.operands]
      split at h
      · rename_i k m k' n hx hy
        split at h
        · split at h
          · rename_i e; subst e; cases h
            exact qjG fun σ hev _ => y_quo hop ((qaZ hev x hxo).trans hx) ((qaZ hev y hyo).trans hy) hφ.1
          · cases h
        · split at h
          · rename_i e; subst e; cases h
            exact qjG fun σ hev _ => y_rem hop ((qaZ hev x hxo).trans hx) ((qaZ hev y hyo).trans hy) hφ.1
          · cases h
        · cases h
          exact qjG fun σ hev _ => y_shl hop ((qaZ hev x hxo).trans hx) ((qaZ hev y hyo).trans hy) hφ.1
        · cases h
          exact qjG fun σ hev _ => y_shr hop ((qaZ hev x hxo).trans hx) ((qaZ hev y hyo).trans hy) hφ.1
        · cases h
      · cases h
    · cases h
  | .sx r, i, φs, h, hφ => by
    simp only [infO] at h
    split at h
    · rename_i t x ix hop
      split at h
      · rename_i s k n hx hi
        split at h
        · rename_i ht
          cases h
          obtain ⟨h0, h1, _⟩ := hφ
          rw [List.getElem?_map, Option.map_eq_some_iff] at h1
          obtain ⟨c, h2, rfl⟩ := h1
          exact qjG fun σ hev _ => zq9 hop (zmY ht) ((qaZ hev x (by rw [hop]; simp [Op.operands])).trans hx) ((qaZ hev ix (by rw [hop]; simp [Op.operands])).trans hi) h0 h2
        · cases h
      · cases h
    · cases h
  | .cp es2 es' n, i, φs, h, hφ => by
    simp only [infO] at h
    split at h
    · rename_i args tys hop
      split at h
      · rename_i d x t t' ha ht
        have ha' : args = #[d, x] := by rw [← Array.toArray_toList (xs := args), ha]
        have ht' : tys = #[t, t'] := by rw [← Array.toArray_toList (xs := tys), ht]
        subst ha'; subst ht'
        split at h
        · rename_i j off len e by' z hs hi
          split at h
          · rename_i e' es new hj hn
            split at h
            · rename_i e; subst e
              cases h
              obtain ⟨h1, h2, h3, _⟩ := hφ
              subst h1; subst h2; subst h3
              intro σ hev hb _
              have hdo : d ∈ o.op.operands.toList := by rw [hop]; simp [Op.operands, Call.operands]
              have hxo : x ∈ o.op.operands.toList := by rw [hop]; simp [Op.operands, Call.operands]
              have hn' := q3A (hp := st.hp) (hp' := σ.hp) (sz := 1) (v := st.ev x) (fun k hk => qoF hb hxo hk)
              have := zxG (cx := cx) (st := σ) hop hi ((qaZ hev d hdo).trans hs) ((qoF hb hdo (by rw [hs]; simp [V.keys, C.keys])).trans hj) (qwT (by rw [qaZ hev x hxo, hn']; exact hn))
              cases hd : o.dst with
              | none => rw [hd] at this; exact this
              | some q => rw [hd] at this; exact this
            · cases h
          · cases h
        · cases h
      · cases h
    · cases h
  | .slM l hh m es', i, φs, h, hφ => by
    simp only [infO] at h
    split at h
    · rename_i t x lo hi mx hop
      split at h
      · rename_i sz es sz' hx hs
        split at h
        · rename_i p q r hp hq hr
          split at h
          · rename_i e; subst e
            cases h
            obtain ⟨h1, h2, h3, h4, h5, h6, h7, _⟩ := hφ
            subst h7
            exact qjG fun σ hev _ => zp7 hop hs ((qaZ hev x (by rw [hop]; simp [Op.operands])).trans hx)
              (qmF hp h1 fun y hy => qaZ hev y (by rw [hop]; subst hy; simp [Op.operands]))
              (qmF hq h2 fun y hy => qaZ hev y (by rw [hop]; cases hy; simp [Op.operands]))
              (.inr ⟨rfl, rfl, qmF hr h3 fun y hy => qaZ hev y (by rw [hop]; cases hy; simp [Op.operands]), h5, h6⟩) h4 (by omega)
          · cases h
        · cases h
      · cases h
    · cases h
  | .litT es, i, φs, h, hφ => by
    simp only [infO] at h
    split at h
    · rename_i t len parts j hop hd
      split at h
      · rename_i e sz by' z qs hi hq hjn
        split at h
        · rename_i ds hfl
          split at h
          · rename_i fl htr
            split at h
            · rename_i hc
              cases h
              obtain ⟨h1, h2, h3, h4, h5, h6⟩ := hc
              have hfe := hφ.1
              subst hfe
              intro σ hev hb hf
              have he := ztJ (cx := cx) _ hop hd hi h1 h2 h3 h4 hq hfl htr (fun x hx => by simpa using List.all_eq_true.1 h5 x hx) h6 (zb3 st o) σ hev hb.2 hf
              exact zxD he h6 (hb.1.trans hjn)
            · cases h
          · cases h
        · cases h
      · cases h
    · cases h
  | .clo, i, φs, h, _ => by
    simp only [infO] at h
    split at h
    · rename_i f first captured hop
      split at h
      · rename_i caps hc
        split at h
        · rename_i e; subst e
          cases h
          refine qjG fun σ hev _ => zr3 hop ?_
          rw [← zjZ hc]
          apply List.map_congr_left
          intro x hx
          exact qaZ hev x (by rw [hop]; simp [Op.operands]; exact Array.mem_toList_iff.1 hx)
        · cases h
      · cases h
    · cases h
  | .app0, i, φs, h, hφ => by
    simp only [infO] at h
    split at h
    · rename_i args tys hop
      split at h
      · rename_i s x t t' ha ht
        have ha' : args = #[s, x] := by rw [← Array.toArray_toList (xs := args), ha]
        have ht' : tys = #[t, t'] := by rw [← Array.toArray_toList (xs := tys), ht]
        subst ha'; subst ht'
        split at h
        · rename_i e sz by' z hs hi
          split at h
          · rename_i new hn
            split at h
            · rename_i e; subst e
              cases h
              have h1 := hφ.1
              subst h1
              have hso : s ∈ o.op.operands.toList := by rw [hop]; simp [Op.operands, Call.operands]
              have hxo : x ∈ o.op.operands.toList := by rw [hop]; simp [Op.operands, Call.operands]
              exact qjG fun σ hev hb => y_app0 hop hi ((qaZ hev s hso).trans hs) (qwT (by rw [qaZ hev x hxo, q3A fun k hk => qoF hb hxo hk]; exact hn))
            · cases h
          · cases h
        · cases h
      · cases h
    · cases h
  | .pk b, i, φs, h, hφ => by
    simp only [infO] at h
    split at h
    · rename_i c x y hop
      split at h
      · rename_i b' hc
        cases h
        obtain ⟨rfl, _⟩ := hφ
        have e1 : c ∈ o.op.operands.toList := by rw [hop]; simp [Op.operands]
        have e2 : x ∈ o.op.operands.toList := by rw [hop]; simp [Op.operands]
        have e3 : y ∈ o.op.operands.toList := by rw [hop]; simp [Op.operands]
        refine qjG fun σ hev _ => ?_
        cases b' with
        | true => exact zmQ (b := true) hop ((qaZ hev c e1).trans hc) (qaZ hev x e2)
        | false => exact zmQ (b := false) hop ((qaZ hev c e1).trans hc) (qaZ hev y e3)
      · cases h
    · cases h
  | .ia n, i, φs, h, hφ => by
    simp only [infO] at h
    split at h
    · rename_i t x ix hop
      have hxo : x ∈ o.op.operands.toList := by rw [hop]; simp [Op.operands]
      have hio : ix ∈ o.op.operands.toList := by rw [hop]; simp [Op.operands]
      split at h
      · rename_i j q k m n' sz hx hi hs
        split at h
        · rename_i hc
          cases h
          obtain ⟨rfl, _⟩ := hφ
          refine qjG fun σ hev hb => ?_
          have hj := qoF hb hxo (j := j) (by rw [hx]; simp [V.keys, C.keys])
          have := zp8 (cx := cx) (st := σ) hop hs ((qaZ hev x hxo).trans hx) (by rw [hj]; exact hc.2) ((qaZ hev ix hio).trans hi) (by omega) (by omega)
          simpa using this
        · cases h
      · rename_i el q k m n' sz hx hi hs
        split at h
        · rename_i hc
          cases h
          obtain ⟨rfl, _⟩ := hφ
          refine qjG fun σ hev hb => ?_
          have := zn1 (cx := cx) (st := σ) hop hs ((qaZ hev x hxo).trans hx) ((qaZ hev ix hio).trans hi) (by omega) (by omega)
          simpa using this
        · cases h
      · rename_i j r q k m n' sz hx hi hs
        split at h
        · rename_i hj
          split at h
          · rename_i hc
            cases h
            obtain ⟨rfl, _⟩ := hφ
            refine qjG fun σ hev hb => ?_
            have hj' := qoF hb hxo (j := j) (by rw [hx]; simp [V.keys, C.keys])
            have := zn0 (cx := cx) (st := σ) hop hs ((qaZ hev x hxo).trans hx) (hj'.trans hj) ((qaZ hev ix hio).trans hi) (by omega) (by omega)
            simpa using this
          · cases h
        · cases h
      · cases h
    · cases h
  | .lit0, i, φs, h, _ => by
    simp only [infO] at h
    split at h
    · rename_i t parts hop
      split at h
      · rename_i x hi
        split at h
        · rename_i e; subst e
          cases h
          obtain ⟨e, sz, by', z⟩ := x
          intro σ _ _ _
          rw [zj6]
          exact zxF hop hi
        · cases h
      · cases h
    · cases h
end
open Go.RowKit (Below)
def PostN (I : Nat → Nat → Prop) (w : World) (e sz : Nat) (r : Option (List (List T))) (en : Ending) (w' : World) : Prop :=
  Below w.heap.size w w' ∧ ∃ I' : Nat → Nat → Prop, (∀ b o, I b o → I' b o) ∧ (∀ b o, I' b o → I b o ∨ w.heap.size ≤ b) ∧ (∀ b o, I' b o → b < w'.heap.size) ∧
      match r with
      | none => ∃ ad, en = .returned (.slice ad 0 0)
      | some es => ∃ b cap c, en = .returned (.slice (some ⟨b, 0, none⟩) es.length cap) ∧ w.heap.size ≤ b ∧ (∀ o, ¬ I' b o) ∧ 0 < sz ∧ es.length ≤ cap ∧ cap ≤ maxLen ∧ (∀ x ∈ es, x.length = sz) ∧
          w'.heap[b]? = some (.cells c e (0, 0)) ∧ c.size = cap * sz ∧ ∀ i k x t, es[i]? = some x → x[k]? = some t → ∃ v, c[i * sz + k]? = some v ∧ Rep w' I' v t
def zo9 (P : Program) (f : FuncId) (args : List TV) (e sz : Nat) (r : Option (List (List T))) : Prop :=
  ∀ (I : Nat → Nat → Prop) (w : World) (vs : List Value), (∀ b o, I b o → b < w.heap.size) → TVRs w I vs args → Calls P f vs.toArray w (PostN I w e sz r)
def zt6 (P : Program) (f : FuncId) (e sz : Nat) (r : Option (List (List T))) (en : Exit) (s : St) : Prop :=
  (en = .ret ∨ en = .normal) ∧ match r with
    | none => endV P f s = some (.c .nil)
    | some es => ∃ j es0, endV P f s = some (.c (.row j 0 es.length)) ∧ s.hp.lookup j = some (.row e sz es0 0) ∧ es0.take es.length = es
section
variable {P : Program} {cx : Cx} {o : Oper} {st : St} {L : Loc} {I : Nat → Nat → Prop} {a : Act} {w : World}
theorem ztA {f : FuncId} {n e sz : Nat} {args : List TV} {r : Option (List (List T))} (hok : okFn P f n = true) (hl : args.length ≤ n)
    (h : ∀ cx : Cx, cx.n = n → AW P cx (q6V P f) (St.init args) (zt6 P f e sz r)) : zo9 P f args e sz r := by
  unfold okFn at hok
  split at hok
  · rename_i fn hfn
    simp only [Bool.and_eq_true, beq_iff_eq] at hok
    obtain ⟨c, hc⟩ := Option.isSome_iff_exists.1 hok.1
    have hbody : q6V P f = c := by unfold q6V; rw [hfn]; show fn.body.getD .skip = c; rw [hc]; rfl
    rw [hbody] at h
    have hn := hok.2
    intro I w vs hI hvs
    refine calls_of_wp hfn hc ?_
    let cx : Cx := ⟨w, I, [], n⟩
    have hlen : vs.length = args.length := by have := VRs.length hvs; simpa using this
    have hsim : Sim cx (St.init args) { tmps := vs.toArray ++ Array.replicate (fn.ntmps - vs.toArray.size) undef, defers := [] } w := by
      refine ⟨L0, I, ?_⟩
      exact {
        below := Below.refl _ _
        i0 := fun _ _ h => h
        i1 := fun _ _ h => .inl h
        ib := hI
        inj := fun j j' b b' h => by simp [St.init] at h
        hp := fun j b h => by simp [St.init] at h
        tm := fun t v ht => by
          obtain ⟨_, x, h1, rfl⟩ := q4A args 0 t v ht
          simp only [Nat.sub_zero] at h1
          have hx : (args.map TV.toV)[t]? = some x.toV := by simp [h1]
          obtain ⟨u, g1, g2⟩ := VRs.get hvs hx
          have htl : t < vs.length := (List.getElem?_eq_some_iff.1 g1).1
          refine ⟨?_, by show t < n; omega⟩
          have : (vs.toArray ++ Array.replicate (fn.ntmps - vs.toArray.size) undef).getD t undef = u := by
            have e1 : (vs.toArray ++ Array.replicate (fn.ntmps - vs.toArray.size) undef)[t]? = some u := by
              rw [Array.getElem?_append_left (by simpa using htl)]; simpa using g1
            simp only [Array.getD_eq_getD_getElem?, e1, Option.getD_some]
          rw [this]
          exact VR.reT g2
        ex := trivial
        defers := rfl
        size := by simp [hn]; show _ = n; omega }
    refine wp_mono (h cx rfl _ w hsim) ?_
    intro en a' w' ⟨s, hq, L, I', hs⟩
    obtain ⟨he, hq⟩ := hq
    have run : ∀ {x : V}, endV P f s = some x → ∃ v, (results fn a'.tmps).run P w' = .ok v w' ∧ VR w' L s.hp I' v x := by
      intro x hend
      unfold endV at hend
      rw [hfn] at hend
      simp only at hend
      split at hend
      · rename_i rr hr
        obtain ⟨v, g1, g2⟩ := zsH (P := P) hs hend
        refine ⟨v, ?_, g2⟩
        have hm : (fn.results.mapM (q5T a')).run P w' = .ok #[v] w' := by
          rw [Array.mapM_eq_mapM_toList, hr]
          simp only [List.mapM_cons, List.mapM_nil, Sem.run_map, Sem.run_bind, g1, Result.andThen_ok]
          rfl
        have he : results fn a'.tmps = (fn.results.mapM (q5T a')) >>= fun vs => pure (if h : vs.size = 1 then vs[0] else .tuple vs) := by
          unfold results
          congr 1
        rw [he, Sem.run_bind, hm]
        rfl
      · cases hend
    have fin : a'.defers = [] ∧ ∃ v, (results fn a'.tmps).run P w' = .ok v w' ∧ PostN I w e sz r (.returned v) w' := by
      cases r with
      | none =>
        obtain ⟨v, g1, g2⟩ := run hq
        obtain ⟨ad, hv⟩ := g2
        exact ⟨hs.defers, v, g1, hs.below, I', hs.i0, hs.i1, hs.ib, ad, by rw [hv]⟩
      | some es =>
        obtain ⟨j, es0, hend, hj, htk⟩ := hq
        obtain ⟨v, g1, g2⟩ := run hend
        obtain ⟨q1, q2⟩ := g2 e sz es0 0 hj
        obtain ⟨hB, hsz0, hcap, hmx, hes, hIf, arr, hg, hsz, hcs⟩ := hs.hp j _ hj
        refine ⟨hs.defers, v, g1, hs.below, I', hs.i0, hs.i1, hs.ib, L.m j, L.cp j, arr, ?_, hB, ?_, hsz0, by omega, hmx, ?_, hg, hsz, ?_⟩
        · rw [q2]; simp
        · intro o ho
          have := hIf o ho
          omega
        · intro x hx
          rw [← htk] at hx
          exact hes x (List.mem_of_mem_take hx)
        · intro i k x t hx ht
          rw [← htk, List.getElem?_take] at hx
          split at hx
          · exact hcs i k x t hx ht
          · cases hx
    rcases he with rfl | rfl
    · exact fin
    · exact fin
  · cases hok
theorem SimD.adopt {j b0 cap : Nat} {blk : Blk} (h : SimD cx L I st a w) (hf : st.free j = true) (hfresh : ∀ j' b', st.hp.lookup j' = some b' → L.m j' ≠ b0)
    (hb : BR w (L.set j b0 cap) ((j, blk) :: st.hp) I cx.w0.heap.size j blk) : SimD cx (L.set j b0 cap) I (st.addB j blk) a w := by
  have k : Keep (some j) w w L (L.set j b0 cap) st.hp ((j, blk) :: st.hp) I I := by
    refine ⟨fun _ _ h => h, fun _ _ _ => rfl, fun j' hne hs => ?_, fun j' e sz es fz hne hl => ?_⟩
    · have : j' ≠ j := fun e => by subst e; simp at hne
      rw [qc9, if_neg this] at hs
      exact ⟨hs, by simp [Loc.set, this]⟩
    · have : j' ≠ j := fun e => by subst e; simp at hne
      rw [qc9, if_neg this] at hl
      exact ⟨es, fz, hl, Nat.le_refl _, by simp [Loc.set, this]⟩
  refine h.step k (fun j' e => by cases e; exact hf) (Below.refl _ _) h.i1 h.ib ?_ ?_
  · intro j1 j2 b1 b2 h1 h2 he
    rw [qc9] at h1 h2
    split at h1 <;> split at h2
    · rename_i e1 e2; rw [e1, e2]
    · rename_i e1 e2
      have := hfresh j2 b2 h2
      simp [Loc.set, e1, e2] at he
      exact absurd he.symm this
    · rename_i e1 e2
      have := hfresh j1 b1 h1
      simp [Loc.set, e1, e2] at he
      exact absurd he this
    · rename_i e1 e2
      simp [Loc.set, e1, e2] at he
      exact h.inj j1 j2 b1 b2 h1 h2 he
  · intro j' b' hl
    rw [qc9] at hl
    split at hl
    · rename_i e; subst e; cases hl; exact hb
    · rename_i e
      exact BR.keep k (h.hp j' b' hl) (St.free_hp hf hl e) rfl (by simp [Loc.set, e]) (by simp [Loc.set, e]) (fun o ho => ho)
def zwS (st : St) (d e sz : Nat) : Option (List (List T)) → St
  | none => st.put d (.c .nil)
  | some es => (st.addB d (.row e sz es 0)).put d (.c (.row d 0 es.length))
theorem zuS {x : Operand} {args : List Operand} {tys : Array TypeId} {f : FuncId} {d e sz : Nat} {hss : List (List Nat)} {ys : List TV} {r : Option (List (List T))} (ho : o.op = .call { callee := .value x, args := args.toArray, argTypes := tys }) (hd' : o.dst = some d)
    (hx : st.ev x = .c (.t (.fn f))) (hc : qs4 P f = true) (hargs : zj5 st hss args = some ys) (hf : st.free d = true) (hh : zo9 P f ys e sz r) :
    OpOK P cx o st (zwS st d e sz r) := by
  intro hd a w hsim K Q hK
  obtain ⟨L, I, h⟩ := hsim
  have hfn : a.eval x = .func (.func f) #[] #[] := by
    have := h.ev x
    rw [hx] at this
    exact Rep.fn_inv this
  have hrun := q5S (P := P) (w := w) ho hfn hc
  have hcalls := hh I w (args.map a.eval) h.ib (VRs.reT (zp6 h hargs))
  unfold Oper.wp
  rw [hrun, Oper.upon_enter]
  refine Calls.mono hcalls fun en w' he => ?_
  obtain ⟨hb, I', h1, h2, h3, hres⟩ := he
  have h' := h.after hb h1 h2 h3
  cases r with
  | none =>
    obtain ⟨ad, rfl⟩ := hres
    have := qmZ (o := o) (v := .c .nil) h' ⟨ad, rfl⟩ hd
    rw [hd'] at this
    refine hK _ _ ?_
    rw [hd']
    exact this
  | some es =>
    obtain ⟨b, cap, c, rfl, hlow, hnI, hsz0, hle, hmx, hes, hg, hsz, hcs⟩ := hres
    have h4 : SimD cx (L.set d b cap) I' (st.addB d (.row e sz es 0)) a w' := by
      refine h'.adopt hf (fun j' b' hl => by have := (h.hp j' b' hl).lt.2; omega) ?_
      refine ⟨by simpa [Loc.set] using Nat.le_trans h.below.size hlow, hsz0, by simpa [Loc.set] using hle, by simpa [Loc.set] using hmx, hes, ?_, c, by simpa [Loc.set] using hg, by simpa [Loc.set] using hsz, hcs⟩
      intro o ho
      simp only [Loc.set, if_true] at ho
      exact absurd ho (hnI o)
    have := qmZ (o := o) (v := .c (.row d 0 es.length)) (val := .slice (some ⟨b, 0, none⟩) es.length cap) h4 (by
      intro e' sz' es' fz' hl
      have hl' : (st.addB d (.row e sz es 0)).hp.lookup d = some (.row e' sz' es' fz') := hl
      rw [St.addB_lookup, if_pos rfl] at hl'
      cases hl'
      exact ⟨by omega, by simp [Loc.set]⟩) hd
    rw [hd'] at this
    refine hK _ _ ?_
    rw [hd']
    exact this
end
open Go.RowKit (Below)
def infG (P : Program) (ops : Array Oper) (st : St) (o : Oper) : H → Option (Inf × List Prop)
  | .ga b h => match o.guard with
    | some (g, b0) => match (ops[g]?).bind (·.dst) with
      | some t => match st.tm.lookup t with
        | some (.c (.t (.bool b'))) => if b = b0 then (infO P st o h).map fun r => (r.1, (b' = b) :: r.2) else some (⟨[], [], ⟨o.dst.map fun d => (d, .tup []), none⟩⟩, [b' = b])
        | _ => none
      | none => none
    | none => none
  | h => match o.guard with
    | none => infO P st o h
    | some (g, b0) => match (ops[g]?).bind (·.dst) with
      | some t => match st.tm.lookup t with
        | some (.c (.t (.bool b'))) => if b' = b0 then infO P st o h else some (⟨[], [], ⟨o.dst.map fun d => (d, .tup []), none⟩⟩, [])
        | some (.tup []) => some (⟨[], [], ⟨o.dst.map fun d => (d, .tup []), none⟩⟩, [])
        | _ => none
      | none => none
inductive I where
  | op (h : H)
  | appR (es2 es : List (List T))
  | appT (es : List (List T))
  | snap (t fz : Nat) (es : List (List T))
  | snapC (jb k fz : Nat) (es : List (List T))
  | nilT (t sz : Nat)
  | sb (t : Nat) (b : Bool)
  | si (t : Nat) (n : Int)
  | rl (t off len : Nat)
  | tellA (t : Nat) (hs : List Nat)
  | tellB (j : Nat) (hs : List Nat)
  | callR (js : List Nat) (F' : List (Nat × Blk)) (res : V)
  | callN (hss : List (List Nat)) (e sz : Nat) (r : Option (List (List T)))
  | keepT (ts : List Nat)
  | rlB (jb k off len : Nat)
  | keep (ts js : List Nat)
def zxC (hp : List (Nat × Blk)) (js : List Nat) : List (Nat × Blk) := js.filterMap fun j => (hp.lookup j).map fun b => (j, b)
theorem zg3 (hp : List (Nat × Blk)) : ∀ js : List Nat, ztF hp (zxC hp js)
  | [], _ => rfl
  | j :: js, k => by
    have ih := zg3 hp js k
    unfold zxC at ih ⊢
    cases hl : hp.lookup j with
    | none => simpa [hl] using ih
    | some b =>
      simp only [List.filterMap_cons, hl, Option.map_some, List.cons_append]
      rw [qc9]
      split
      · rename_i e; subst e; exact hl.symm
      · exact ih
def andC (r : Option (St × List Prop)) (ps : List Prop) : Option (St × List Prop) := r.map fun q => (q.1, ps ++ q.2)
def seqX (P : Program) (ops : Array Oper) : List I → List Oper → St → Option (St × List Prop)
  | [], [], st => some (st, [])
  | [], _ :: _, _ => none
  | .op h :: is, o :: l, st => match infG P ops st o h with
    | some (i, φ) => if i.fresh.all (fun j => st.free j) then andC (seqX P ops is l (i.u.app st)) φ else none
    | none => none
  | .op _ :: _, [], _ => none
  | .appR es2 es' :: is, o :: l, st => match o.guard, o.op, o.dst with
    | none, .call { callee := .builtin .append, args, argTypes }, some d => match args.toList, argTypes.toList with
      | [s, x], [t, t'] => match st.ev s, qhG P t with
        | .c (.row j 0 len), some (e, sz, by', _) => match st.hp.lookup j, q3B st.hp sz (st.ev x) with
          | some (.row e' sz' es 0), some new => if t = t' ∧ 0 < sz ∧ e = e' ∧ sz = sz' then
              andC (seqX P ops is l (((st.scrub j).addB j (.row e sz es' 0)).put d (.c (.row j 0 es'.length)))) [len = es.length, new = es2, es ++ es2 = es', es'.length * by' ≤ 140737488355328, es'.length ≤ maxLen] else none
          | _, _ => none
        | _, _ => none
      | _, _ => none
    | _, _, _ => none
  | .appR _ _ :: _, [], _ => none
  | .appT es' :: is, o :: l, st => match o.guard, o.op, o.dst with
    | none, .call { callee := .builtin .append, args, argTypes }, some d => match args.toList, argTypes.toList with
      | [s, x], [t, t'] => match st.ev s, qhG P t with
        | .c .nil, some (_, sz, by', _) => match q3B st.hp sz (st.ev x), st.hp.lookup d with
          | some new, none => if t = t' ∧ 0 < sz ∧ st.free d then
              andC (seqX P ops is l (st.put d (.c (.t (.sl sz es'))))) [new = es', es'.length * by' ≤ 140737488355328, es'.length ≤ maxLen] else none
          | _, _ => none
        | _, _ => none
      | _, _ => none
    | _, _, _ => none
  | .appT _ :: _, [], _ => none
  | .snap t fz' es' :: is, l, st => match st.tm.lookup t with
    | some (.c (.row j off len)) => match st.hp.lookup j with
      | some (.row e sz es fz) => andC (seqX P ops is l ((st.addB j (.row e sz es fz')).put t (.c (.t (.sl sz es'))))) [(es.drop off).take len = es', max fz (off + len) = fz']
      | _ => none
    | some (.c (.clip j off len)) => match st.hp.lookup j with
      | some (.row e sz es fz) => andC (seqX P ops is l ((st.addB j (.row e sz es fz')).put t (.c (.t (.sl sz es'))))) [(es.drop off).take len = es', max fz (off + len) = fz']
      | _ => none
    | _ => none
  | .snapC jb k fz' es' :: is, l, st => match st.hp.lookup jb with
    | some (.var cs) => match cs[k]? with
      | some (.row j off len) => match st.hp.lookup j with
        | some (.row e sz es fz) => andC (seqX P ops is l ((st.addB j (.row e sz es fz')).addB jb (.var (cs.set k (.t (.sl sz es')))))) [(es.drop off).take len = es', max fz (off + len) = fz']
        | _ => none
      | _ => none
    | _ => none
  | .nilT t sz :: is, l, st => match st.tm.lookup t with
    | some (.c .nil) => seqX P ops is l (st.put t (.c (.t (.sl sz []))))
    | _ => none
  | .sb t b :: is, l, st => match st.tm.lookup t with
    | some (.c (.t (.bool b'))) => andC (seqX P ops is l (st.put t (zj0 b))) [b' = b]
    | _ => none
  | .si t n :: is, l, st => match st.tm.lookup t with
    | some (.c (.t (.int k n'))) => andC (seqX P ops is l (st.put t (intV k n))) [n' = n]
    | _ => none
  | .rl t off' len' :: is, l, st => match st.tm.lookup t with
    | some (.c (.row j off len)) => andC (seqX P ops is l (st.put t (.c (.row j off' len')))) [off = off', len = len']
    | _ => none
  | .tellA t hs :: is, l, st => match st.tm.lookup t with
    | some (.agg cs) => match qs8 (fun k => hs.getD k 0) 0 cs with
      | some ts => seqX P ops is l (st.put t (.agg (ts.map .t)))
      | none => none
    | _ => none
  | .tellB j hs :: is, l, st => match st.hp.lookup j with
    | some (.var cs) => match qs8 (fun k => hs.getD k 0) 0 cs with
      | some ts => seqX P ops is l (st.addB j (.var (ts.map .t)))
      | none => none
    | _ => none
  | .callR js F' res :: is, o :: l, st => match o.guard, o.op with
    | none, .call { callee := .value x, args, argTypes := _ } => match fnOf (st.ev x) with
      | some (f, caps) => if qs4 P f then andC (seqX P ops is l (({ st with hp := F' ++ st.hp } : St).put? o.dst res)) [zm5 P f (args.toList.map st.ev ++ caps.map capV) (zxC st.hp js) F' res] else none
      | none => none
    | _, _ => none
  | .callR _ _ _ :: _, [], _ => none
  | .callN hss e sz r :: is, o :: l, st => match o.guard, o.op, o.dst with
    | none, .call { callee := .value x, args, argTypes := _ }, some d => match st.ev x, zj5 st hss args.toList with
      | .c (.t (.fn f)), some ys => if qs4 P f ∧ st.free d then
          andC (seqX P ops is l (zwS st d e sz r)) [zo9 P f ys e sz r] else none
      | _, _ => none
    | _, _, _ => none
  | .callN _ _ _ _ :: _, [], _ => none
  | .keepT ts :: is, l, st => seqX P ops is l { st with tm := ts.filterMap fun t => (st.tm.lookup t).map fun v => (t, v) }
  | .rlB jb k off' len' :: is, l, st => match st.hp.lookup jb with
    | some (.var cs) => match cs[k]? with
      | some (.row j off len) => andC (seqX P ops is l (st.addB jb (.var (cs.set k (.row j off' len'))))) [off = off', len = len']
      | _ => none
    | _ => none
  | .keep ts js :: is, l, st => seqX P ops is l (st.keep ts js)
def zrE (P : Program) (ops : Array Oper) : List H → List Oper → St → Option (List Inf × List Oper × St × List Prop)
  | [], l, st => some ([], l, st, [])
  | h :: hs, o :: l, st => match infG P ops st o h with
    | some (i, φ) => match zrE P ops hs l (i.u.app st) with
      | some (is, l', st', ψ) => some (i :: is, l', st', φ ++ ψ)
      | none => none
    | none => none
  | _ :: _, [], _ => none
section
variable {P : Program} {cx : Cx} {o : Oper} {st st' : St} {ops : Array Oper} {l : List Oper} {R : St → Prop}
theorem zs6 {h : H} {i : Inf} {φs : List Prop} (hx : infG P ops st o h = some (i, φs)) (hφ : AllP φs) : EffG P cx ops o st i.rk i.fresh i.u := by
  have plain : (match o.guard with
    | none => infO P st o h
    | some (g, b0) => match (ops[g]?).bind (·.dst) with
      | some t => match st.tm.lookup t with
        | some (.c (.t (.bool b'))) => if b' = b0 then infO P st o h else some (⟨[], [], ⟨o.dst.map fun d => (d, .tup []), none⟩⟩, [])
        | some (.tup []) => some (⟨[], [], ⟨o.dst.map fun d => (d, .tup []), none⟩⟩, [])
        | _ => none
      | none => none) = some (i, φs) → EffG P cx ops o st i.rk i.fresh i.u := by
    intro hx
    unfold EffG
    cases hg : o.guard with
    | none => rw [hg] at hx; exact zpW hx hφ
    | some p =>
      obtain ⟨g, b0⟩ := p
      rw [hg] at hx
      simp only at hx ⊢
      split at hx
      · rename_i t ht
        split at hx
        · rename_i b' hl
          split at hx
          · rename_i e
            exact ⟨t, _, some b', ht, hl, rfl, by rw [if_pos (by rw [e])]; exact zpW hx hφ⟩
          · rename_i e
            cases hx
            exact ⟨t, _, some b', ht, hl, rfl, by rw [if_neg (by simpa using e)]⟩
        · rename_i hl
          cases hx
          exact ⟨t, _, none, ht, hl, rfl, by rw [if_neg (by simp)]⟩
        · cases hx
      · cases hx
  cases h with
  | ga b h =>
    simp only [infG] at hx
    unfold EffG
    split at hx
    · rename_i g b0 hg
      rw [hg]
      simp only
      split at hx
      · rename_i t ht
        split at hx
        · rename_i b' hl
          split at hx
          · rename_i e
            obtain ⟨r, h1, h2⟩ := Option.map_eq_some_iff.1 hx
            cases h2
            obtain ⟨h3, h4⟩ := hφ
            exact ⟨t, _, some b', ht, hl, rfl, by rw [if_pos (by rw [h3.trans e])]; exact zpW h1 h4⟩
          · rename_i e
            cases hx
            exact ⟨t, _, some b', ht, hl, rfl, by rw [if_neg (by rw [hφ.1]; simpa using e)]⟩
        · cases hx
      · cases hx
    · cases hx
  | _ => exact plain hx
theorem q4K (st : St) : ∀ xs : List Operand, q8F st st xs
  | [] => trivial
  | _ :: xs => ⟨rfl, q4K st xs⟩
theorem q8E (st : St) : ∀ xs : List Nat, zeI st st xs
  | [] => trivial
  | _ :: xs => ⟨rfl, q8E st xs⟩
theorem zxA {rk fresh : List Nat} {u : Upd} (h : EffG P cx ops o st rk fresh u) (hf : ∀ j ∈ fresh, st.free j = true) (hr : qmG P cx ops l (u.app st) R) : qmG P cx ops (o :: l) st R := by
  unfold EffG at h
  split at h
  · rename_i hg
    exact zmU hg (h st (q4K st _) (q8E st _) hf) hr
  · rename_i g b hg
    obtain ⟨t, v, yb, ht, hl, hyv, hif⟩ := h
    split at hif
    · rename_i e; subst e
      have hgb : zeC ops st g = some b := by
        unfold zeC
        rw [ht]
        simp only
        rw [hl]
        unfold yV at hyv
        split at hyv
        · cases hyv; rfl
        · cases hyv
        · cases hyv
      exact zsD hg hgb (hif st (q4K st _) (q8E st _) hf) hr
    · rename_i e
      subst hif
      rw [zj6] at hr
      exact zuN hg ht hl hyv e hr
theorem qgW {r : Option (St × List Prop)} {ps φ : List Prop} {s : St} (h : andC r ps = some (s, φ)) : ∃ ψ, r = some (s, ψ) ∧ φ = ps ++ ψ := by
  obtain ⟨q, h1, h2⟩ := Option.map_eq_some_iff.1 h
  cases h2
  exact ⟨_, h1, rfl⟩
theorem Sim.retellEq {t : Nat} {v v' : V} {a : Act} {w : World} (h : Sim cx st a w) (hl : st.tm.lookup t = some v) (e : v = v') : Sim cx (st.put t v') a w := by
  subst e
  obtain ⟨L, I, h⟩ := h
  obtain ⟨h1, h2⟩ := h.tm t v hl
  exact ⟨L, I, h.retell h2 h1⟩
theorem Sim.tellB {j : Nat} {hs : List Nat} {cs : List C} {ts : List T} {a : Act} {w : World} (hsim : Sim cx st a w) (hb : st.hp.lookup j = some (.var cs)) (ht : qs8 (fun k => hs.getD k 0) 0 cs = some ts) :
    Sim cx (st.addB j (.var (ts.map .t))) a w := by
  obtain ⟨L, I, h⟩ := hsim
  obtain ⟨q1, q2, arr, ty, hg, hcs⟩ := h.hp j _ hb
  have hself : w.setRow (L.m j) arr = w := by rw [setRow_self w _ arr ty (0, 0) hg]
  have := h.write (b' := .var (ts.map .t)) (arr' := arr) hb hg (fun e' sz' es' fz' he => by cases he) (fun _ _ => rfl) (fun kk =>
    ⟨q1, q2, arr, ty, setRow_heap w _ arr _ ty _ hg, qyD (kk.cs (qoE _) hcs) ht⟩)
  rw [hself] at this
  exact ⟨L, _, this⟩
theorem Sim.tellA {t : Nat} {hs : List Nat} {cs : List C} {ts : List T} {a : Act} {w : World} (hsim : Sim cx st a w) (hl : st.tm.lookup t = some (.agg cs)) (ht : qs8 (fun k => hs.getD k 0) 0 cs = some ts) :
    Sim cx (st.put t (.agg (ts.map .t))) a w := by
  obtain ⟨L, I, h⟩ := hsim
  obtain ⟨h1, h2⟩ := h.tm t _ hl
  obtain ⟨vs, e, hv⟩ := h1
  exact ⟨L, I, h.retell h2 ⟨vs, e, qyD hv ht⟩⟩
theorem Sim.sameB {jb k : Nat} {cs : List C} {c : C} {a : Act} {w : World} (hs : Sim cx st a w) (hb : st.hp.lookup jb = some (.var cs)) (hk : cs[k]? = some c) : Sim cx (st.addB jb (.var (cs.set k c))) a w := by
  obtain ⟨L, I, h⟩ := hs
  refine ⟨L, I, h.same (fun _ => rfl) (fun j => ?_) rfl⟩
  rw [St.addB_lookup]
  split
  · rename_i e; subst e
    rw [hb]
    congr 2
    apply List.ext_getElem?
    intro i
    rw [List.getElem?_set]
    split
    · rename_i e; subst e
      split
      · exact hk.symm
      · rename_i hlt; rw [List.getElem?_eq_none (by omega)]
    · rfl
  · rfl
theorem qlP : ∀ {is : List I} {l : List Oper} {st st' : St} {φs : List Prop}, seqX P ops is l st = some (st', φs) → AllP φs → R st' → qmG P cx ops l st R
  | [], [], st, st', φs, h, _, hr => by simp only [seqX] at h; cases h; exact zw9 hr
  | [], _ :: _, _, _, _, h, _, _ => by simp [seqX] at h
  | .op hh :: is, o :: l, st, st', φs, h, hφ, hr => by
    simp only [seqX] at h
    split at h
    · rename_i i φ hi
      split at h
      · rename_i hf
        obtain ⟨ψ, h1, rfl⟩ := qgW h
        obtain ⟨g1, g2⟩ := hφ.append
        exact zxA (zs6 hi g1) (fun j hj => List.all_eq_true.1 hf j hj) (qlP h1 g2 hr)
      · cases h
    · cases h
  | .op _ :: _, [], _, _, _, h, _, _ => by simp [seqX] at h
  | .appR es2 es' :: is, o :: l, st, st', φs, h, hφ, hr => by
    simp only [seqX] at h
    split at h
    · rename_i args tys d hg hop hd
      split at h
      · rename_i s x t t' ha ht
        have ha' : args = #[s, x] := by rw [← Array.toArray_toList (xs := args), ha]
        have ht' : tys = #[t, t'] := by rw [← Array.toArray_toList (xs := tys), ht]
        subst ha'; subst ht'
        split at h
        · rename_i j len e sz by' z hs hi
          split at h
          · rename_i e' sz' es new hj hn
            split at h
            · rename_i hc
              obtain ⟨rfl, hsz, rfl, rfl⟩ := hc
              obtain ⟨ψ, h1, rfl⟩ := qgW h
              obtain ⟨g1, g2⟩ := hφ.append
              obtain ⟨k1, k2, k3, k4, k5, _⟩ := g1
              subst k1; subst k2; subst k3
              have hlen : (es ++ new).length = es.length + new.length := List.length_append
              refine zmU hg (zrJ hop hd hi hsz hs hj (qwT hn) (by rw [← hlen]; exact k4) (by rw [← hlen]; exact k5)) ?_
              rw [← hlen]
              exact qlP h1 g2 hr
            · cases h
          · cases h
        · cases h
      · cases h
    · cases h
  | .appR _ _ :: _, [], _, _, _, h, _, _ => by simp [seqX] at h
  | .appT es' :: is, o :: l, st, st', φs, h, hφ, hr => by
    simp only [seqX] at h
    split at h
    · rename_i args tys d hg hop hd
      split at h
      · rename_i s x t t' ha ht
        have ha' : args = #[s, x] := by rw [← Array.toArray_toList (xs := args), ha]
        have ht' : tys = #[t, t'] := by rw [← Array.toArray_toList (xs := tys), ht]
        subst ha'; subst ht'
        split at h
        · rename_i e sz by' z hs hi
          split at h
          · rename_i new hn hjn
            split at h
            · rename_i hc
              obtain ⟨rfl, hsz, hf⟩ := hc
              obtain ⟨ψ, h1, rfl⟩ := qgW h
              obtain ⟨g1, g2⟩ := hφ.append
              obtain ⟨k1, k2, k3, _⟩ := g1
              subst k1
              exact zmU hg (zpP hop hd hi hsz hs (qwT hn) k2 k3 hf hjn) (qlP h1 g2 hr)
            · cases h
          · cases h
        · cases h
      · cases h
    · cases h
  | .appT _ :: _, [], _, _, _, h, _, _ => by simp [seqX] at h
  | .snap t fz' es' :: is, l, st, st', φs, h, hφ, hr => by
    simp only [seqX] at h
    split at h
    · rename_i j off len ht
      split at h
      · rename_i e sz es fz hj
        obtain ⟨ψ, h1, rfl⟩ := qgW h
        obtain ⟨g1, g2⟩ := hφ.append
        obtain ⟨k1, k2, _⟩ := g1
        subst k1; subst k2
        exact qtI (fun a w hs => hs.snap ht hj) (qlP h1 g2 hr)
      · cases h
    · rename_i j off len ht
      split at h
      · rename_i e sz es fz hj
        obtain ⟨ψ, h1, rfl⟩ := qgW h
        obtain ⟨g1, g2⟩ := hφ.append
        obtain ⟨k1, k2, _⟩ := g1
        subst k1; subst k2
        exact qtI (fun a w hs => hs.snapClip ht hj) (qlP h1 g2 hr)
      · cases h
    · cases h
  | .snapC jb k fz' es' :: is, l, st, st', φs, h, hφ, hr => by
    simp only [seqX] at h
    split at h
    · rename_i cs hb
      split at h
      · rename_i j off len hk
        split at h
        · rename_i e sz es fz hj
          obtain ⟨ψ, h1, rfl⟩ := qgW h
          obtain ⟨g1, g2⟩ := hφ.append
          obtain ⟨k1, k2, _⟩ := g1
          subst k1; subst k2
          exact qtI (fun a w hs => hs.snapCell hb hk hj) (qlP h1 g2 hr)
        · cases h
      · cases h
    · cases h
  | .nilT t sz :: is, l, st, st', φs, h, hφ, hr => by
    simp only [seqX] at h
    split at h
    · rename_i ht
      exact qtI (fun a w hs => hs.nilT ht) (qlP h hφ hr)
    · cases h
  | .sb t b :: is, l, st, st', φs, h, hφ, hr => by
    simp only [seqX] at h
    split at h
    · rename_i b' ht
      obtain ⟨ψ, h1, rfl⟩ := qgW h
      obtain ⟨g1, g2⟩ := hφ.append
      exact qtI (fun a w hs => hs.retellEq ht (by rw [g1.1]; rfl)) (qlP h1 g2 hr)
    · cases h
  | .si t n :: is, l, st, st', φs, h, hφ, hr => by
    simp only [seqX] at h
    split at h
    · rename_i k n' ht
      obtain ⟨ψ, h1, rfl⟩ := qgW h
      obtain ⟨g1, g2⟩ := hφ.append
      exact qtI (fun a w hs => hs.retellEq ht (by rw [g1.1]; rfl)) (qlP h1 g2 hr)
    · cases h
  | .rl t off' len' :: is, l, st, st', φs, h, hφ, hr => by
    simp only [seqX] at h
    split at h
    · rename_i j off len ht
      obtain ⟨ψ, h1, rfl⟩ := qgW h
      obtain ⟨g1, g2⟩ := hφ.append
      exact qtI (fun a w hs => hs.retellEq ht (by rw [g1.1, g1.2.1])) (qlP h1 g2 hr)
    · cases h
  | .tellA t ks :: is, l, st, st', φs, h, hφ, hr => by
    simp only [seqX] at h
    split at h
    · rename_i cs ht
      split at h
      · rename_i ts hts
        exact qtI (fun a w hs => hs.tellA ht hts) (qlP h hφ hr)
      · cases h
    · cases h
  | .tellB j ks :: is, l, st, st', φs, h, hφ, hr => by
    simp only [seqX] at h
    split at h
    · rename_i cs ht
      split at h
      · rename_i ts hts
        exact qtI (fun a w hs => hs.tellB ht hts) (qlP h hφ hr)
      · cases h
    · cases h
  | .callR js F' res :: is, o :: l, st, st', φs, h, hφ, hr => by
    simp only [seqX] at h
    split at h
    · rename_i x args tys hg hop
      split at h
      · rename_i f caps hx
        split at h
        · rename_i hc
          obtain ⟨ψ, h1, rfl⟩ := qgW h
          obtain ⟨g1, g2⟩ := hφ.append
          have hop' : o.op = .call { callee := .value x, args := args.toList.toArray, argTypes := tys } := by simpa using hop
          exact zmU hg (zuR hop' hx hc (zg3 st.hp js) g1.1) (qlP h1 g2 hr)
        · cases h
      · cases h
    · cases h
  | .callR _ _ _ :: _, [], _, _, _, h, _, _ => by simp [seqX] at h
  | .callN hss e sz r :: is, o :: l, st, st', φs, h, hφ, hr => by
    simp only [seqX] at h
    split at h
    · rename_i x args tys d hg hop hd
      split at h
      · rename_i f ys hx ha
        split at h
        · rename_i hc
          obtain ⟨ψ, h1, rfl⟩ := qgW h
          obtain ⟨g1, g2⟩ := hφ.append
          have hop' : o.op = .call { callee := .value x, args := args.toList.toArray, argTypes := tys } := by simpa using hop
          exact zmU hg (zuS hop' hd hx hc.1 ha hc.2 g1.1) (qlP h1 g2 hr)
        · cases h
      · cases h
    · cases h
  | .callN _ _ _ _ :: _, [], _, _, _, h, _, _ => by simp [seqX] at h
  | .keepT ts :: is, l, st, st', φs, h, hφ, hr => by
    simp only [seqX] at h
    exact qtI (fun a w hs => by obtain ⟨L, I, hs⟩ := hs; exact ⟨L, I, hs.sub (fun t v ht => qfP ht) (fun _ _ hb => hb) rfl⟩) (qlP h hφ hr)
  | .rlB jb k off' len' :: is, l, st, st', φs, h, hφ, hr => by
    simp only [seqX] at h
    split at h
    · rename_i cs hb
      split at h
      · rename_i j off len hk
        obtain ⟨ψ, h1, rfl⟩ := qgW h
        obtain ⟨g1, g2⟩ := hφ.append
        obtain ⟨k1, k2, _⟩ := g1
        subst k1; subst k2
        exact qtI (fun a w hs => hs.sameB hb hk) (qlP h1 g2 hr)
      · cases h
    · cases h
  | .keep ts js :: is, l, st, st', φs, h, hφ, hr => by
    simp only [seqX] at h
    exact qtI (fun a w hs => hs.keep ts js) (qlP h hφ hr)
theorem preS : ∀ {is : List I} {st st' : St} {φs : List Prop}, seqX P #[] is [] st = some (st', φs) → AllP φs → ∀ a w, Sim cx st a w → Sim cx st' a w
  | [], st, st', φs, h, _ => by simp only [seqX] at h; cases h; exact fun _ _ hs => hs
  | .op _ :: _, _, _, _, h, _ => by simp [seqX] at h
  | .appR _ _ :: _, _, _, _, h, _ => by simp [seqX] at h
  | .appT _ :: _, _, _, _, h, _ => by simp [seqX] at h
  | .snap t fz' es' :: is, st, st', φs, h, hφ => by
    simp only [seqX] at h
    split at h
    · rename_i j off len ht
      split at h
      · rename_i e sz es fz hj
        obtain ⟨ψ, h1, rfl⟩ := qgW h
        obtain ⟨g1, g2⟩ := hφ.append
        obtain ⟨k1, k2, _⟩ := g1
        subst k1; subst k2
        exact fun a w hs => preS h1 g2 a w (hs.snap ht hj)
      · cases h
    · rename_i j off len ht
      split at h
      · rename_i e sz es fz hj
        obtain ⟨ψ, h1, rfl⟩ := qgW h
        obtain ⟨g1, g2⟩ := hφ.append
        obtain ⟨k1, k2, _⟩ := g1
        subst k1; subst k2
        exact fun a w hs => preS h1 g2 a w (hs.snapClip ht hj)
      · cases h
    · cases h
  | .snapC jb k fz' es' :: is, st, st', φs, h, hφ => by
    simp only [seqX] at h
    split at h
    · rename_i cs hb
      split at h
      · rename_i j off len hk
        split at h
        · rename_i e sz es fz hj
          obtain ⟨ψ, h1, rfl⟩ := qgW h
          obtain ⟨g1, g2⟩ := hφ.append
          obtain ⟨k1, k2, _⟩ := g1
          subst k1; subst k2
          exact fun a w hs => preS h1 g2 a w (hs.snapCell hb hk hj)
        · cases h
      · cases h
    · cases h
  | .nilT t sz :: is, st, st', φs, h, hφ => by
    simp only [seqX] at h
    split at h
    · rename_i ht
      exact fun a w hs => preS h hφ a w (hs.nilT ht)
    · cases h
  | .sb t b :: is, st, st', φs, h, hφ => by
    simp only [seqX] at h
    split at h
    · rename_i b' ht
      obtain ⟨ψ, h1, rfl⟩ := qgW h
      obtain ⟨g1, g2⟩ := hφ.append
      exact fun a w hs => preS h1 g2 a w (hs.retellEq ht (by rw [g1.1]; rfl))
    · cases h
  | .si t n :: is, st, st', φs, h, hφ => by
    simp only [seqX] at h
    split at h
    · rename_i k n' ht
      obtain ⟨ψ, h1, rfl⟩ := qgW h
      obtain ⟨g1, g2⟩ := hφ.append
      exact fun a w hs => preS h1 g2 a w (hs.retellEq ht (by rw [g1.1]; rfl))
    · cases h
  | .rl t off' len' :: is, st, st', φs, h, hφ => by
    simp only [seqX] at h
    split at h
    · rename_i j off len ht
      obtain ⟨ψ, h1, rfl⟩ := qgW h
      obtain ⟨g1, g2⟩ := hφ.append
      exact fun a w hs => preS h1 g2 a w (hs.retellEq ht (by rw [g1.1, g1.2.1]))
    · cases h
  | .tellA t ks :: is, st, st', φs, h, hφ => by
    simp only [seqX] at h
    split at h
    · rename_i cs ht
      split at h
      · rename_i ts hts
        exact fun a w hs => preS h hφ a w (hs.tellA ht hts)
      · cases h
    · cases h
  | .tellB j ks :: is, st, st', φs, h, hφ => by
    simp only [seqX] at h
    split at h
    · rename_i cs ht
      split at h
      · rename_i ts hts
        exact fun a w hs => preS h hφ a w (hs.tellB ht hts)
      · cases h
    · cases h
  | .callR _ _ _ :: _, _, _, _, h, _ => by simp [seqX] at h
  | .callN _ _ _ _ :: _, _, _, _, h, _ => by simp [seqX] at h
  | .keepT ts :: is, st, st', φs, h, hφ => by
    simp only [seqX] at h
    exact fun a w hs => preS h hφ a w (by obtain ⟨L, I, hs⟩ := hs; exact ⟨L, I, hs.sub (fun t v ht => qfP ht) (fun _ _ hb => hb) rfl⟩)
  | .rlB jb k off' len' :: is, st, st', φs, h, hφ => by
    simp only [seqX] at h
    split at h
    · rename_i cs hb
      split at h
      · rename_i j off len hk
        obtain ⟨ψ, h1, rfl⟩ := qgW h
        obtain ⟨g1, g2⟩ := hφ.append
        obtain ⟨k1, k2, _⟩ := g1
        subst k1; subst k2
        exact fun a w hs => preS h1 g2 a w (hs.sameB hb hk)
      · cases h
    · cases h
  | .keep ts js :: is, st, st', φs, h, hφ => by
    simp only [seqX] at h
    exact fun a w hs => preS h hφ a w (hs.keep ts js)
theorem zqK : ∀ {hs : List H} {l l' : List Oper} {st st' : St} {is : List Inf} {φs : List Prop}, zrE P ops hs l st = some (is, l', st', φs) → AllP φs → qmG P cx ops l' st' R → zj7 P cx ops R l is st
  | [], l, l', st, st', is, φs, h, _, hr => by simp only [zrE] at h; cases h; simpa only [zj7] using hr
  | hh :: hs, o :: l, l', st, st', is, φs, h, hφ, hr => by
    simp only [zrE] at h
    split at h
    · rename_i i φ hi
      split at h
      · rename_i is' l'' st'' ψ h1
        cases h
        obtain ⟨g1, g2⟩ := hφ.append
        exact ⟨zs6 hi g1, zqK h1 g2 hr⟩
      · cases h
    · cases h
  | _ :: _, [], _, _, _, _, _, h, _, _ => by simp [zrE] at h
end
inductive Fr where
  | code (c : Code)
  | blk (id : Nat)
  | lp (c : Code)
  | sc
inductive G where
  | reg (is : List I)
  | draw (hs : List H) (is : List I)
  | br (b : Bool)
  | go
  | pre (is : List I)
def andG (r : Option (List Fr × Exit × St × List Prop)) (ps : List Prop) : Option (List Fr × Exit × St × List Prop) := r.map fun q => (q.1, q.2.1, q.2.2.1, ps ++ q.2.2.2)
def goX (P : Program) (n : Nat) : Nat → List Fr → Exit → St → List G → Option (List Fr × Exit × St × List Prop)
  | 0, _, _, _, _ => none
  | fuel + 1, k, e, st, gs =>
    match k with
    | [] => match gs with | [] => some ([], e, st, []) | _ => none
    | .blk id :: k => match e with
      | .exit id' => goX P n fuel k (if id' = id then .normal else .exit id') st gs
      | e => goX P n fuel k e st gs
    | .lp c :: k => match e with
      | .normal => goX P n fuel (.code (.loop c) :: k) .normal st gs
      | e => goX P n fuel k e st gs
    | .sc :: k => match e with
      | .goto _ => none
      | e => goX P n fuel k e st gs
    | .code c :: k => match e with
      | .normal => match c with
        | .scope x => goX P n fuel (.code x :: .sc :: k) .normal st gs
        | .seq x y => goX P n fuel (.code x :: .code y :: k) .normal st gs
        | .block id x => goX P n fuel (.code x :: .blk id :: k) .normal st gs
        | .skip => goX P n fuel k .normal st gs
        | .exit id => goX P n fuel k (.exit id) st gs
        | .ret => goX P n fuel k .ret st gs
        | .label _ => goX P n fuel k .normal st gs
        | c => match gs with
          | [] => some (.code c :: k, .normal, st, [])
          | .pre is :: gs => match seqX P #[] is [] st with
            | some (st', φ) => andG (goX P n fuel (.code c :: k) .normal st' gs) φ
            | none => none
          | g :: gs => match c, g with
            | .region _ ops false, .reg is => if zm1 n ops.toList then match seqX P ops is ops.toList st with
                | some (st', φ) => andG (goX P n fuel k .normal st' gs) φ
                | none => none
              else none
            | .region _ ops true, .draw hs is => if zm1 n ops.toList ∧ P.follows .mixedOrders = true then match zrE P ops hs ops.toList st with
                | some (infs, l', st1, φ) => if zqW ops infs ∧ infs.length ≤ ops.toList.length ∧ infs.all (fun i => i.fresh.all fun k => st.free k) = true then match seqX P ops is l' st1 with
                    | some (st', ψ) => andG (goX P n fuel k .normal st' gs) (φ ++ ψ)
                    | none => none
                  else none
                | none => none
              else none
            | .cond cc x y, .br b => match st.ev cc with
              | .c (.t (.bool b')) => andG (goX P n fuel (.code (if b then x else y) :: k) .normal st gs) [b' = b]
              | _ => none
            | .loop x, .go => goX P n fuel (.code x :: .lp x :: k) .normal st gs
            | _, _ => none
      | e => goX P n fuel k e st gs
section
variable {P : Program} {cx : Cx}
def LW (P : Program) (cx : Cx) (x : Code) (st : St) (Q : Exit → St → Prop) : Prop :=
  ∀ a w, Sim cx st a w → ∀ (b : Frame) (k : List Item) (cs : List Frame),
    ∃ e a' w', (∃ st', Q e st' ∧ Sim cx st' a' w') ∧ Arrives P (lone (b.at a (.code x :: .inLoop x :: k)) cs w) b k cs e a' w'
theorem LW.aw {x : Code} {st : St} {Q : Exit → St → Prop} (h : LW P cx x st Q) : AW P cx (.loop x) st Q := fun a w hs b k cs =>
  let ⟨e, a', w', hq, harr⟩ := h a w hs b k cs
  ⟨e, a', w', hq, .of_steps (.one step_loop) harr⟩
theorem LW.round {x : Code} {st : St} {Q : Exit → St → Prop} (h : AW P cx x st (zw5 (fun s => LW P cx x s Q) Q)) : LW P cx x st Q := by
  intro a w hs b k cs
  obtain ⟨e, a₁, w₁, ⟨s, hq, hs1⟩, harr⟩ := h a w hs b (.inLoop x :: k) cs
  cases e with
  | normal =>
    obtain ⟨e₂, a₂, w₂, hq₂, harr₂⟩ := hq a₁ w₁ hs1 b k cs
    exact ⟨e₂, a₂, w₂, hq₂, .of_steps (Steps.trans harr (.one step_inLoop)) harr₂⟩
  | exit id => exact ⟨_, a₁, w₁, ⟨s, hq, hs1⟩, .pass (x := .inLoop x) rfl (fun _ _ => .inl (by simp)) harr⟩
  | goto l => exact ⟨_, a₁, w₁, ⟨s, hq, hs1⟩, .pass (x := .inLoop x) rfl (fun _ _ => .inl (by simp)) harr⟩
  | ret => exact ⟨_, a₁, w₁, ⟨s, hq, hs1⟩, .pass (x := .inLoop x) rfl (fun _ _ => .inl (by simp)) harr⟩
  | panic ch => exact ⟨_, a₁, w₁, ⟨s, hq, hs1⟩, .pass (x := .inLoop x) rfl (fun _ _ => .inl (by simp)) harr⟩
  | outgrown => exact ⟨_, a₁, w₁, ⟨s, hq, hs1⟩, .pass (x := .inLoop x) rfl (fun _ _ => .inl (by simp)) harr⟩
def CW (P : Program) (cx : Cx) (c : Code) (st : St) (Q : Exit → St → Prop) : Prop :=
  match c with
  | .loop x => LW P cx x st Q
  | c => AW P cx c st Q
theorem CW.aw {c : Code} {st : St} {Q : Exit → St → Prop} (h : CW P cx c st Q) : AW P cx c st Q := by
  cases c with
  | loop x => exact LW.aw h
  | _ => exact h
def AWk (P : Program) (cx : Cx) (F : Exit → St → Prop) : List Fr → Exit → St → Prop
  | [], e, st => F e st
  | .code c :: k, e, st => match e with
    | .normal => CW P cx c st (AWk P cx F k)
    | e => AWk P cx F k e st
  | .blk id :: k, e, st => match e with
    | .exit id' => AWk P cx F k (if id' = id then .normal else .exit id') st
    | e => AWk P cx F k e st
  | .lp c :: k, e, st => match e with
    | .normal => LW P cx c st (AWk P cx F k)
    | e => AWk P cx F k e st
  | .sc :: k, e, st => match e with
    | .goto _ => False
    | e => AWk P cx F k e st
variable {F : Exit → St → Prop} {n : Nat}
theorem zbM {r : Option (List Fr × Exit × St × List Prop)} {ps φ : List Prop} {k' : List Fr} {e' : Exit} {s : St} (h : andG r ps = some (k', e', s, φ)) : ∃ ψ, r = some (k', e', s, ψ) ∧ φ = ps ++ ψ := by
  obtain ⟨q, h1, h2⟩ := Option.map_eq_some_iff.1 h
  cases h2
  exact ⟨_, h1, rfl⟩
theorem preCW {c : Code} {Q : Exit → St → Prop} {is : List I} {st st' : St} {φs : List Prop} (h : seqX P #[] is [] st = some (st', φs)) (hφ : AllP φs) (hc : CW P cx c st' Q) : CW P cx c st Q := by
  cases c with
  | loop x => exact fun a w hs => hc a w (preS h hφ a w hs)
  | _ => exact fun a w hs => hc a w (preS h hφ a w hs)
theorem qvB {c : Code} {k : List Fr} {st : St} (h : AWk P cx F (.code c :: k) .normal st) : AW P cx c st (AWk P cx F k) := CW.aw h
theorem ql4 (hn : cx.n = n) : ∀ {fuel : Nat} {k k' : List Fr} {e e' : Exit} {st st' : St} {gs : List G} {φs : List Prop}, goX P n fuel k e st gs = some (k', e', st', φs) → AllP φs →
    AWk P cx F k' e' st' → AWk P cx F k e st
  | 0, _, _, _, _, _, _, _, _, h, _, _ => by simp [goX] at h
  | fuel + 1, k, k', e, e', st, st', gs, φs, h, hφ, hr => by
    unfold goX at h
    cases k with
    | nil =>
      simp only at h
      split at h
      · cases h; exact hr
      · cases h
    | cons fr k =>
      cases fr with
      | blk id =>
        simp only at h
        cases e with
        | exit id' => exact (ql4 (k := k) hn h hφ hr : AWk P cx F k (if id' = id then .normal else .exit id') st)
        | normal => exact (ql4 (k := k) hn h hφ hr : AWk P cx F k .normal st)
        | goto l => exact (ql4 (k := k) hn h hφ hr : AWk P cx F k (.goto l) st)
        | ret => exact (ql4 (k := k) hn h hφ hr : AWk P cx F k .ret st)
        | panic ch => exact (ql4 (k := k) hn h hφ hr : AWk P cx F k (.panic ch) st)
        | outgrown => exact (ql4 (k := k) hn h hφ hr : AWk P cx F k .outgrown st)
      | lp c =>
        simp only at h
        cases e with
        | normal => exact (ql4 (k := .code (.loop c) :: k) hn h hφ hr : AWk P cx F (.code (.loop c) :: k) .normal st)
        | exit id' => exact (ql4 (k := k) hn h hφ hr : AWk P cx F k (.exit id') st)
        | goto l => exact (ql4 (k := k) hn h hφ hr : AWk P cx F k (.goto l) st)
        | ret => exact (ql4 (k := k) hn h hφ hr : AWk P cx F k .ret st)
        | panic ch => exact (ql4 (k := k) hn h hφ hr : AWk P cx F k (.panic ch) st)
        | outgrown => exact (ql4 (k := k) hn h hφ hr : AWk P cx F k .outgrown st)
      | sc =>
        simp only at h
        cases e with
        | exit id' => exact (ql4 (k := k) hn h hφ hr : AWk P cx F k (.exit id') st)
        | normal => exact (ql4 (k := k) hn h hφ hr : AWk P cx F k .normal st)
        | goto l => cases h
        | ret => exact (ql4 (k := k) hn h hφ hr : AWk P cx F k .ret st)
        | panic ch => exact (ql4 (k := k) hn h hφ hr : AWk P cx F k (.panic ch) st)
        | outgrown => exact (ql4 (k := k) hn h hφ hr : AWk P cx F k .outgrown st)
      | code c =>
        simp only at h
        cases e with
        | normal =>
          have stop : ∀ {k' : List Fr} {e' : Exit} {st' : St} {φs : List Prop}, some (Fr.code c :: k, Exit.normal, st, ([] : List Prop)) = some (k', e', st', φs) → AWk P cx F k' e' st' → AWk P cx F (.code c :: k) .normal st := by
            intro k' e' st' φs h hr; cases h; exact hr
          have pre : ∀ {is : List I} {gs : List G}, (match seqX P #[] is [] st with
              | some (st', φ) => andG (goX P n fuel (.code c :: k) .normal st' gs) φ
              | none => none) = some (k', e', st', φs) → AWk P cx F (.code c :: k) .normal st := by
            intro is gs h
            split at h
            · rename_i st1 φ h1
              obtain ⟨ψ, h2, rfl⟩ := zbM h
              obtain ⟨g1, g2⟩ := hφ.append
              exact preCW h1 g1 (ql4 (k := .code c :: k) hn h2 g2 hr)
            · cases h
          cases c with
          | seq x y => exact aw_seq (fun a w hs => wp_mono (qvB (ql4 (k := .code x :: .code y :: k) hn h hφ hr) a w hs) fun e _ _ ⟨s, h1, h2⟩ => by
              cases e with
              | normal => exact ⟨s, CW.aw h1, h2⟩
              | _ => exact ⟨s, h1, h2⟩)
          | block id x => exact zvM (fun a w hs => wp_mono (qvB (ql4 (k := .code x :: .blk id :: k) hn h hφ hr) a w hs) fun e _ _ ⟨s, h1, h2⟩ => by
              cases e with
              | exit id' =>
                refine ⟨s, ?_, h2⟩
                simp only [ztU]
                simp only [AWk] at h1
                split
                · rename_i e; rw [if_pos e] at h1; exact h1
                · rename_i e; rw [if_neg e] at h1; exact h1
              | _ => exact ⟨s, h1, h2⟩)
          | scope x => exact fun a w hs => wp_scope_straight (wp_mono (qvB (ql4 (k := .code x :: .sc :: k) hn h hφ hr) a w hs) fun e _ _ ⟨s, h1, h2⟩ => by
              cases e with
              | goto l => exact h1.elim
              | _ => exact ⟨s, h1, h2⟩)
          | skip => exact zxU (ql4 hn h hφ hr)
          | exit id => exact zxV (ql4 (e := .exit id) hn h hφ hr)
          | ret => exact aw_ret (ql4 (e := .ret) hn h hφ hr)
          | label l => exact zvL (ql4 hn h hφ hr)
          | region id ops draw =>
            simp only at h
            split at h
            · exact stop h hr
            · exact pre h
            · rename_i g gs hnp
              split at h
              · rename_i ops' is heq
                cases heq
                split at h
                · rename_i hd
                  split at h
                  · rename_i st1 φ h1
                    obtain ⟨ψ, h2, rfl⟩ := zbM h
                    obtain ⟨g1, g2⟩ := hφ.append
                    have := zt0 (id := id) (Q := AWk P cx F k) hn hd (qlP (R := AWk P cx F k .normal) (ops := ops.toList.toArray) (by simpa using h1) g1 (ql4 hn h2 g2 hr))
                    rw [Array.toArray_toList] at this
                    exact this
                  · cases h
                · cases h
              · rename_i ops' hs is heq
                cases heq
                split at h
                · rename_i hd
                  obtain ⟨hd, hmix⟩ := hd
                  split at h
                  · rename_i infs l' st1 φ h1
                    split at h
                    · rename_i hc
                      obtain ⟨hc, hm, hf⟩ := hc
                      split at h
                      · rename_i st2 ψ h2
                        obtain ⟨χ, h3, rfl⟩ := zbM h
                        obtain ⟨g1, g3⟩ := hφ.append
                        obtain ⟨g1, g2⟩ := g1.append
                        have := zmP (id := id) (Q := AWk P cx F k) infs hmix hn hd hm (by simpa using hc) hf
                          (zqK (ops := ops.toList.toArray) (by simpa using h1) g1 (qlP (R := AWk P cx F k .normal) (by simpa using h2) g2 (ql4 hn h3 g3 hr)))
                        rw [Array.toArray_toList] at this
                        exact this
                      · cases h
                    · cases h
                  · cases h
                · cases h
              · rename_i heq; cases heq
              · rename_i heq; cases heq
              · cases h
          | cond cc x y =>
            simp only at h
            split at h
            · exact stop h hr
            · exact pre h
            · rename_i g gs hnp
              split at h
              · rename_i heq; cases heq
              · rename_i heq; cases heq
              · rename_i cc' x' y' b heq
                cases heq
                split at h
                · rename_i b' hb
                  obtain ⟨ψ, h2, rfl⟩ := zbM h
                  obtain ⟨g1, g2⟩ := hφ.append
                  have h3 := qvB (ql4 hn h2 g2 hr)
                  refine zxW hb (fun e => ?_) (fun e => ?_)
                  · rw [g1.1] at e; subst e; exact h3
                  · rw [g1.1] at e; subst e; exact h3
                · cases h
              · rename_i heq; cases heq
              · cases h
          | loop x =>
            simp only at h
            split at h
            · exact stop h hr
            · exact pre h
            · rename_i g gs hnp
              split at h
              · rename_i heq; cases heq
              · rename_i heq; cases heq
              · rename_i heq; cases heq
              · rename_i x' heq
                cases heq
                exact LW.round (fun a w hs => wp_mono (qvB (ql4 (k := .code x :: .lp x :: k) hn h hφ hr) a w hs) fun e _ _ ⟨s, h1, h2⟩ => by
                  cases e with
                  | normal => exact ⟨s, h1, h2⟩
                  | _ => exact ⟨s, h1, h2⟩)
              · cases h
          | _ =>
            simp only at h
            split at h
            · exact stop h hr
            · exact pre h
            · cases h
        | exit id' => exact (ql4 (k := k) hn h hφ hr : AWk P cx F k (.exit id') st)
        | goto l => exact (ql4 (k := k) hn h hφ hr : AWk P cx F k (.goto l) st)
        | ret => exact (ql4 (k := k) hn h hφ hr : AWk P cx F k .ret st)
        | panic ch => exact (ql4 (k := k) hn h hφ hr : AWk P cx F k (.panic ch) st)
        | outgrown => exact (ql4 (k := k) hn h hφ hr : AWk P cx F k .outgrown st)
end
open Go.RowKit (Below)
def subC : Code → Nat → Code
  | .seq a _, 0 => a
  | .seq _ b, _ => b
  | .cond _ a _, 0 => a
  | .cond _ _ b, _ => b
  | .block _ c, _ => c
  | .loop c, _ => c
  | .scope c, _ => c
  | .rangeFunc _ _ a _, 0 => a
  | .rangeFunc _ _ _ b, _ => b
  | c, _ => c
def atC : Code → List Nat → Code
  | c, [] => c
  | c, i :: p => atC (subC c i) p
def qbQ (P : Program) (f : FuncId) : Code := match P.funcs[f]? with | some fn => fn.body.getD .skip | none => .skip
def fnOk (P : Program) (f : FuncId) (n : Nat) : Bool := match P.funcs[f]? with | some fn => fn.body.isSome && fn.ntmps == n | none => false
def qc2 (P : Program) (f : FuncId) (hss : List (List Nat)) (res : TV) (e : Exit) (s : St) : Prop := match P.funcs[f]? with | some fn => Ends P fn hss res e s | none => False
theorem zu1 {P : Program} {f : FuncId} {n : Nat} {args : List TV} {res : TV} (hss : List (List Nat)) (hok : fnOk P f n = true) (hl : args.length ≤ n)
    (h : ∀ cx : Cx, cx.n = n → AWk P cx (qc2 P f hss res) [.code (qbQ P f)] .normal (St.init args)) : qc5 P f args res := by
  unfold fnOk at hok
  split at hok
  · rename_i fn hfn
    simp only [Bool.and_eq_true, beq_iff_eq] at hok
    obtain ⟨c, hc⟩ := Option.isSome_iff_exists.1 hok.1
    refine zu0 hss hfn hc hok.2 hl fun cx hcx => ?_
    have := qvB (h cx hcx)
    have hbody : qbQ P f = c := by unfold qbQ; rw [hfn]; show fn.body.getD .skip = c; rw [hc]; rfl
    rw [hbody] at this
    intro a w hs
    refine wp_mono (this a w hs) fun e _ _ ⟨s, h1, h2⟩ => ⟨s, ?_, h2⟩
    have h1' : qc2 P f hss res e s := h1
    unfold qc2 at h1'
    rw [hfn] at h1'
    exact h1'
  · cases hok
theorem aN : AllP [] := trivial
theorem aC {p : Prop} {ps : List Prop} (h : p) (t : AllP ps) : AllP (p :: ps) := ⟨h, t⟩
theorem r0 : 0 = 0 := rfl
theorem rt : true = true := rfl
theorem rf : false = false := rfl
theorem lq {α : Type} (l : List α) : l.length = l.length := rfl
abbrev oo : I := .op .p
structure Wk (P : Program) (cx : Cx) (F : Exit → St → Prop) (k : List Fr) (e : Exit) (st : St) : Prop where
  h : AWk P cx F k e st
abbrev wI6 (x : Int) : Int := IntKind.i64.wrap x
abbrev wU6 (x : Int) : Int := IntKind.u64.wrap x
abbrev wU3 (x : Int) : Int := IntKind.u32.wrap x
abbrev wU1 (x : Int) : Int := IntKind.u8.wrap x
abbrev rgG (l : List I) : G := .reg l
abbrev opI (h : H) : I := .op h
abbrev rg1 : G := .reg [oo]
abbrev rg2 : G := .reg [oo, oo]
abbrev rg3 : G := .reg [oo, oo, oo]
abbrev rg4 : G := .reg [oo, oo, oo, oo]
abbrev rg5 : G := .reg [oo, oo, oo, oo, oo]
abbrev rg6 : G := .reg [oo, oo, oo, oo, oo, oo]
abbrev bTr : G := .br true
abbrev bFa : G := .br false
theorem qa0 {P : Program} {f : FuncId} {n : Nat} {args : List TV} {res : TV} (hss : List (List Nat)) (hok : fnOk P f n = true) (hl : args.length ≤ n)
    (h : ∀ cx : Cx, cx.n = n → Wk P cx (qc2 P f hss res) [.code (qbQ P f)] .normal (St.init args)) : qc5 P f args res := zu1 hss hok hl fun cx hcx => (h cx hcx).h
theorem zrC {P : Program} {cx : Cx} {F : Exit → St → Prop} {n fuel : Nat} {k k' : List Fr} {e e' : Exit} {st st' : St} (gs : List G) (φs : List Prop) (hn : cx.n = n) (h : goX P n fuel k e st gs = some (k', e', st', φs)) (hφ : AllP φs)
    (hr : Wk P cx F k' e' st') : Wk P cx F k e st := ⟨ql4 hn h hφ hr.h⟩
def zvA (P : Program) (f : FuncId) (hss : List (List Nat)) (s : St) : Option TV := match P.funcs[f]? with | some fn => (resU P s hss fn.results.toList).bind resT | none => none
theorem zu9 {P : Program} {f : FuncId} {hss : List (List Nat)} {res : TV} {s : St} (h : zvA P f hss s = some res) : qc2 P f hss res .ret s ∧ qc2 P f hss res .normal s := by
  unfold zvA at h
  unfold qc2
  split at h
  · exact ⟨h, h⟩
  · cases h
theorem zn4 {P : Program} {cx : Cx} {f : FuncId} {hss : List (List Nat)} {res : TV} {n fuel : Nat} {k : List Fr} {e : Exit} {st : St} (gs : List G) (φs : List Prop) (hn : cx.n = n)
    (h : (goX P n fuel k e st gs).bind (fun r => match r.1, r.2.1 with | [], .ret => (zvA P f hss r.2.2.1).map fun v => (v, r.2.2.2) | _, _ => none) = some (res, φs)) (hφ : AllP φs) : Wk P cx (qc2 P f hss res) k e st := by
  refine ⟨?_⟩
  obtain ⟨⟨k', e', st', ψ⟩, h1, h2⟩ := Option.bind_eq_some_iff.1 h
  split at h2
  · rename_i hk he
    have hk : k' = [] := hk
    have he : e' = .ret := he
    subst hk; subst he
    obtain ⟨v, h3, h4⟩ := Option.map_eq_some_iff.1 h2
    cases h4
    exact ql4 hn h1 hφ (zu9 h3).1
  · cases h2
theorem oinj {α : Type} {a b : α} (h : some a = some b) : a = b := Option.some.inj h
theorem wkG {P : Program} {cx : Cx} {F : Exit → St → Prop} {n : Nat} {k k' : List Fr} {e e' : Exit} {st st' : St} {φs : List Prop} (gs : List G) (hn : cx.n = n) (hφ : AllP φs) (hr : Wk P cx F k' e' st') (h : goX P n 200 k e st gs = some (k', e', st', φs) := by kernel_rfl) : Wk P cx F k e st := zrC gs φs hn h hφ hr
theorem wkR {P : Program} {cx : Cx} {f : FuncId} {hss : List (List Nat)} {res : TV} {n : Nat} {k : List Fr} {e : Exit} {st : St} {φs : List Prop} (gs : List G) (hn : cx.n = n) (hφ : AllP φs)
    (h : (goX P n 200 k e st gs).bind (fun r => match r.1, r.2.1 with | [], .ret => (zvA P f hss r.2.2.1).map fun v => (v, r.2.2.2) | _, _ => none) = some (res, φs) := by kernel_rfl) : Wk P cx (qc2 P f hss res) k e st := zn4 gs φs hn h hφ
theorem zoY {P : Program} {f : FuncId} {n : Nat} {args : List V} {F F' : List (Nat × Blk)} {res : V} (hok : okFn P f n = true) (hl : args.length ≤ n)
    (h : ∀ cx : Cx, cx.n = n → ∀ H exs, Wk P cx (zvQ P f (F' ++ H) exs res) [.code (q6V P f)] .normal ⟨idxV 0 args, F ++ H, exs⟩) : zm5 P f args F F' res :=
  zs8 hok hl fun cx hcx H exs => by
    have := qvB (h cx hcx H exs).h
    intro a w hs
    exact this a w hs
theorem zs9 {P : Program} {f : FuncId} {n e sz : Nat} {args : List TV} {r : Option (List (List T))} (hok : okFn P f n = true) (hl : args.length ≤ n)
    (h : ∀ cx : Cx, cx.n = n → Wk P cx (zt6 P f e sz r) [.code (q6V P f)] .normal (St.init args)) : zo9 P f args e sz r :=
  ztA hok hl fun cx hcx => by
    have := qvB (h cx hcx).h
    intro a w hs
    exact this a w hs
def endN (P : Program) (f : FuncId) (s : St) : Option (Option (Nat × Nat × Nat × List (List T))) := match endV P f s with
  | some (.c .nil) => some none
  | some (.c (.row j 0 n)) => match s.hp.lookup j with
    | some (.row e sz es 0) => some (some (n, e, sz, es))
    | _ => none
  | _ => none
theorem zm7 {P : Program} {cx : Cx} {f : FuncId} {n' e sz fuel : Nat} {k : List Fr} {en : Exit} {st : St} (gs : List G) (φs : List Prop) (hn : cx.n = n')
    (h : (goX P n' fuel k en st gs).bind (fun q => match q.1, q.2.1 with | [], .ret => (endN P f q.2.2.1).map fun v => (v, q.2.2.2) | _, _ => none) = some (none, φs)) (hφ : AllP φs) : Wk P cx (zt6 P f e sz none) k en st := by
  refine ⟨?_⟩
  obtain ⟨⟨k', e', st', ψ⟩, h1, h2⟩ := Option.bind_eq_some_iff.1 h
  split at h2
  · rename_i hk he
    have hk : k' = [] := hk
    have he : e' = .ret := he
    subst hk; subst he
    obtain ⟨v, h3, h4⟩ := Option.map_eq_some_iff.1 h2
    cases h4
    refine ql4 hn h1 hφ ⟨.inl rfl, ?_⟩
    have h3 : endN P f st' = some none := h3
    unfold endN at h3
    split at h3
    · assumption
    · split at h3 <;> cases h3
    · cases h3
  · cases h2
theorem zqC {P : Program} {cx : Cx} {f : FuncId} {n' e sz m fuel : Nat} {es0 es : List (List T)} {k : List Fr} {en : Exit} {st : St} (gs : List G) (φs : List Prop) (hn : cx.n = n')
    (h : (goX P n' fuel k en st gs).bind (fun q => match q.1, q.2.1 with | [], .ret => (endN P f q.2.2.1).map fun v => (v, q.2.2.2) | _, _ => none) = some (some (m, e, sz, es0), φs)) (hφ : AllP φs)
    (hm : m = es.length) (he : es0.take m = es) : Wk P cx (zt6 P f e sz (some es)) k en st := by
  refine ⟨?_⟩
  obtain ⟨⟨k', e', st', ψ⟩, h1, h2⟩ := Option.bind_eq_some_iff.1 h
  split at h2
  · rename_i hk hen
    have hk : k' = [] := hk
    have hen : e' = .ret := hen
    subst hk; subst hen
    obtain ⟨v, h3, h4⟩ := Option.map_eq_some_iff.1 h2
    cases h4
    refine ql4 hn h1 hφ ⟨.inl rfl, ?_⟩
    have h3 : endN P f st' = some (some (m, e, sz, es0)) := h3
    unfold endN at h3
    split at h3
    · cases h3
    · rename_i j n2 hv
      split at h3
      · rename_i hl
        cases h3
        subst hm
        exact ⟨j, es0, hv, hl, he⟩
      · cases h3
    · cases h3
  · cases h2
theorem zvD {β : Type} (j : Nat) (a b : β) (H : List (Nat × β)) (k : Nat) : ((j, a) :: (j, b) :: H).lookup k = ((j, a) :: H).lookup k := by
  simp only [qc9]
  split <;> rfl
theorem zpE {P : Program} {cx : Cx} {f : FuncId} {hp : List (Nat × Blk)} {exs : List V} {res : V} {n fuel : Nat} {k : List Fr} {e : Exit} {st : St} (gs : List G) (φs : List Prop) (hp' : List (Nat × Blk)) (hn : cx.n = n)
    (h : (goX P n fuel k e st gs).bind (fun r => match r.1, r.2.1 with | [], .ret => (endV P f r.2.2.1).map fun v => (v, r.2.2.1.hp, r.2.2.1.ex, r.2.2.2) | _, _ => none) = some (res, hp', exs, φs)) (hφ : AllP φs)
    (hhp : ∀ k, hp'.lookup k = hp.lookup k) : Wk P cx (zvQ P f hp exs res) k e st := by
  refine ⟨?_⟩
  obtain ⟨⟨k', e', st', ψ⟩, h1, h2⟩ := Option.bind_eq_some_iff.1 h
  split at h2
  · rename_i hk he
    have hk : k' = [] := hk
    have he : e' = .ret := he
    subst hk; subst he
    obtain ⟨v, h3, h4⟩ := Option.map_eq_some_iff.1 h2
    cases h4
    exact ql4 hn h1 hφ ⟨.inl rfl, hhp, rfl, h3⟩
  · cases h2
def zvW (j : Nat) : Option Nat → V
  | none => .c .nil
  | some n => .c (.row j 0 n)
theorem qaQ {α : Type} {b : Bool} {x y : Option α} {r : α} (h : (bif b then x else y) = some r) : (b = true ∧ x = some r) ∨ (b = false ∧ y = some r) := by
  cases b with
  | true => exact .inl ⟨rfl, h⟩
  | false => exact .inr ⟨rfl, h⟩
def gd {α : Type} (p : Prop) [Decidable p] (x : Option α) : Option α := if p then x else none
theorem qbI {α : Type} {p : Prop} [Decidable p] {x : Option α} {r : α} (h : gd p x = some r) : p ∧ x = some r := by
  unfold gd at h
  split at h
  · exact ⟨by assumption, h⟩
  · cases h
theorem qaH {α β : Type} {x : Option α} {f : α → Option β} {r : β} (h : x.bind f = some r) : ∃ a, x = some a ∧ f a = some r := Option.bind_eq_some_iff.1 h
def gi {α : Type} (l : List α) (i : Int) : Option α := if 0 ≤ i then l[i.toNat]? else none
theorem zwC {α : Type} {l : List α} {i : Int} {x : α} (h : gi l i = some x) (ce : α → List T) : 0 ≤ i ∧ (l.map ce)[i.toNat]? = some (ce x) := by
  unfold gi at h
  split at h
  · exact ⟨by assumption, by rw [List.getElem?_map, h]; rfl⟩
  · cases h
theorem qeF {α β : Type} (l : List α) (f : α → β) : (l.map f).length = l.length := List.length_map f
theorem qa1 {α : Type} {l : List α} {i : Int} {x : α} (h : gi l i = some x) : 0 ≤ i := (zwC h fun _ => []).1
theorem qbS {α : Type} {l : List α} {i : Int} {x : α} (ce : α → List T) (h : gi l i = some x) : (l.map ce)[i.toNat]? = some (ce x) := (zwC h ce).2
theorem qcA {α : Type} {l : List α} {i : Int} {x : α} (ce : α → List T) (h : gi l i = some x) : (l.map ce)[0 + i.toNat]? = some (ce x) := by rw [Nat.zero_add]; exact qbS ce h
theorem gi_lt {α : Type} {l : List α} {i : Int} {x : α} (h : gi l i = some x) : i < (l.length : Int) := by
  have h0 := qa1 h
  unfold gi at h
  rw [if_pos h0] at h
  have := (List.getElem?_eq_some_iff.1 h).1
  omega
theorem qcB {α : Type} {l : List α} {i : Int} {x : α} {n : Nat} (h : gi l i = some x) (e : l.length = n) : i < (n : Int) := e ▸ gi_lt h
theorem qc4 {α : Type} (l : List α) (i : Nat) (y : α) (ce : α → List T) : (l.map ce).set (0 + i) (ce y) = (l.set i y).map ce := by rw [Nat.zero_add, List.map_set]
theorem qgM {α : Type} (n : Nat) (z : α) (ce : α → List T) : List.replicate n (ce z) = (List.replicate n z).map ce := by simp
theorem zqF {α : Type} (l : List α) (h k : Nat) (ce : α → List T) : ((l.map ce).take h).drop k = ((l.take h).drop k).map ce := by simp [List.map_take, List.map_drop]
theorem q27 {α : Type} (l : List α) (h : Nat) (ce : α → List T) : ((l.map ce).take h).drop 0 = (l.take h).map ce := by simp [List.map_take]
theorem qbJ {α : Type} (l : List α) (n : Nat) (ce : α → List T) (e : n = l.length) : ((l.map ce).drop 0).take n = l.map ce := by subst e; simp [List.take_of_length_le]
theorem qs5 {α : Type} (l m : List α) (ce : α → List T) : l.map ce ++ m.map ce = (l ++ m).map ce := by simp
theorem ze8 {α : Type} {l : List α} {n : Nat} (ce : α → List T) (h : n ≤ l.length) : n ≤ (l.map ce).length := by simpa using h
theorem qaX {α : Type} (l : List α) (ce : α → List T) : (((l.map ce).length : Nat) : Int) = (l.length : Int) := by simp
def gio {α : Type} (l : List α) (off len : Nat) (i : Int) : Option α := if 0 ≤ i ∧ i < (len : Int) then l[off + i.toNat]? else none
theorem zv9 {α : Type} {l : List α} {off len : Nat} {i : Int} {x : α} (h : gio l off len i = some x) : 0 ≤ i := by
  unfold gio at h
  split at h
  · rename_i e; exact e.1
  · cases h
theorem zwA {α : Type} {l : List α} {off len : Nat} {i : Int} {x : α} (h : gio l off len i = some x) : i < (len : Int) := by
  unfold gio at h
  split at h
  · rename_i e; exact e.2
  · cases h
theorem zwB {α : Type} {l : List α} {off len : Nat} {i : Int} {x : α} (ce : α → List T) (h : gio l off len i = some x) : (l.map ce)[off + i.toNat]? = some (ce x) := by
  unfold gio at h
  split at h
  · rw [List.getElem?_map, h]; rfl
  · cases h
theorem zuL {α : Type} (l : List α) (k : Nat) (y : α) (ce : α → List T) : (l.map ce).set k (ce y) = (l.set k y).map ce := by rw [List.map_set]
theorem qvU {α : Type} {l : List α} {i : Int} {x : α} (h : gi l i = some x) : l[i.toNat]? = some x := by
  have h0 := qa1 h
  unfold gi at h
  rw [if_pos h0] at h
  exact h
def qeV {α : Type} (l : List α) (off len : Nat) (m : List α) : List α := if off + len ≤ l.length then qbW l off (m.take (min m.length len)) else l
@[simp] theorem zvH {α : Type} (l : List α) (off len : Nat) (m : List α) : (qeV l off len m).length = l.length := by
  unfold qeV
  split
  · simp only [qbW, List.length_append, List.length_take, List.length_drop]; omega
  · rfl
theorem qt9 {α : Type} (l : List α) (off len : Nat) (m : List α) (ce : α → List T) (h : off + len ≤ l.length) : qbW (l.map ce) off ((m.map ce).take (min (m.map ce).length len)) = (qeV l off len m).map ce := by
  simp only [qeV, if_pos h, qbW, List.length_map, List.map_append, List.map_take, List.map_drop, List.length_take]
theorem room {n b : Nat} (hb : 0 < b) (h : n * b ≤ 140737488355328) : n ≤ maxLen := by
  have h1 : n ≤ n * b := Nat.le_mul_of_pos_right _ hb
  have h2 : (140737488355328 : Nat) ≤ maxLen := by decide
  omega
end Go.Am
namespace Go.Am.X
def Ev {α : Type} (f : Nat → Option α) (r : α) : Prop := ∃ K0, ∀ K, K0 ≤ K → f K = some r
theorem qaT {α : Type} (r : α) : Ev (fun _ => some r) r := ⟨0, fun _ _ => rfl⟩
theorem qaG {α β : Type} {f : Nat → Option α} {g : Nat → α → Option β} {x : α} {r : β} (hf : Ev f x) (hg : Ev (fun K => g K x) r) : Ev (fun K => (f K).bind (g K)) r := by
  obtain ⟨a, ha⟩ := hf
  obtain ⟨b, hb⟩ := hg
  exact ⟨max a b, fun K hK => by show (f K).bind (g K) = some r; rw [ha K (by omega), Option.bind_some]; exact hb K (by omega)⟩
theorem qa3 {α β : Type} {f : Option α} {g : Nat → α → Option β} {x : α} {r : β} (hf : f = some x) (hg : Ev (fun K => g K x) r) : Ev (fun K => f.bind (g K)) r := by
  subst hf; exact hg
theorem qaJ {α : Type} {f : Nat → Option α} {r : α} (h : Ev (fun K => f (K + 1)) r) : Ev f r := by
  obtain ⟨a, ha⟩ := h
  exact ⟨a + 1, fun K hK => by
    obtain ⟨k, rfl⟩ : ∃ k, K = k + 1 := ⟨K - 1, by omega⟩
    exact ha k (by omega)⟩
theorem qeZ {α : Type} {p : Prop} [Decidable p] {f : Nat → Option α} {r : α} (hp : p) (h : Ev f r) : Ev (fun K => gd p (f K)) r := by
  have : (fun K => gd p (f K)) = f := by funext K; exact if_pos hp
  rw [this]; exact h
theorem ev_t {α : Type} {b : Bool} {f g : Nat → Option α} {r : α} (hb : b = true) (h : Ev f r) : Ev (fun K => bif b then f K else g K) r := by subst hb; exact h
theorem ev_f {α : Type} {b : Bool} {f g : Nat → Option α} {r : α} (hb : b = false) (h : Ev g r) : Ev (fun K => bif b then f K else g K) r := by subst hb; exact h
theorem zu8 {α : Type} {b : Bool} {f g : Nat → Option α} {r : α} (ht : b = true → Ev f r) (hf : b = false → Ev g r) : Ev (fun K => bif b then f K else g K) r := by cases b; exact hf rfl; exact ht rfl
theorem qeW {α : Type} {f : Nat → Option α} {r s : α} (h : Ev f r) (e : r = s) : Ev f s := e ▸ h
theorem q2K (x : Int) : wU3 x = x % 4294967296 := rfl
theorem zvU (x : Int) : IntKind.wrap .u32 x = x % 4294967296 := rfl
theorem w_u64k (x : Int) : IntKind.wrap .u64 x = x % 18446744073709551616 := rfl
theorem qo9 (x : Int) : wU6 x = x % 18446744073709551616 := rfl
theorem w_u8 (x : Int) : wU1 x = x % 256 := rfl
theorem qbR {x : Int} (h : -9223372036854775808 ≤ x ∧ x < 9223372036854775808) : wI6 x = x := by
  show (if (true && decide (x % 18446744073709551616 ≥ 9223372036854775808)) = true then x % 18446744073709551616 - 18446744073709551616 else x % 18446744073709551616) = x
  split
  · rename_i h1; simp at h1; omega
  · rename_i h1; simp at h1; omega
theorem zoD (k : IntKind) (x n : Int) : qd2 k x n = x / 2 ^ (min n.toNat k.bits) := by
  unfold qd2; exact Int.fdiv_eq_ediv_of_nonneg _ (Int.le_of_lt (Int.pow_pos (by decide)))
theorem zgB (x : Int) : qd2 .u64 x 32 = x / 4294967296 := zoD _ _ _
theorem zoC {k : IntKind} {x n : Int} (h0 : 0 ≤ n) (h : n ≤ k.bits) : qd2 k x n = x / 2 ^ n.toNat := by rw [zoD, Nat.min_eq_left (by omega)]
theorem zqI {k : IntKind} {x n : Int} (h0 : 0 ≤ n) (h : n ≤ k.bits) : qhT k x n = k.wrap (x * 2 ^ n.toNat) := by unfold qhT; rw [Nat.min_eq_left (by omega)]
theorem ztC {α : Type} {l : List α} {i : Int} (h0 : 0 ≤ i) (h : i.toNat < l.length) : gi l i = some l[i.toNat] := by
  unfold gi; rw [if_pos h0]; exact List.getElem?_eq_getElem h
theorem qbN {α : Type} {l : List α} {i : Nat} (h : i < l.length) : gi l (i : Int) = some l[i] := by
  unfold gi; rw [if_pos (by omega)]; exact List.getElem?_eq_getElem h
theorem qsV {α : Type} {l : List α} {i : Nat} {x : α} (h : l[i]? = some x) : gi l (i : Int) = some x := by
  unfold gi; rw [if_pos (by omega)]; exact h
theorem ztB {α : Type} {l : List α} {off len i : Nat} {x : α} (hi : i < len) (h : l[off + i]? = some x) : gio l off len (i : Int) = some x := by
  unfold gio; rw [if_pos (by omega)]; exact h
def Dig (l : List Int) : Prop := ∀ x ∈ l, 0 ≤ x ∧ x < 4294967296
def val : List Int → Int
  | [] => 0
  | x :: l => x + 4294967296 * val l
@[simp] theorem q6X : val [] = 0 := rfl
@[simp] theorem qpV (x : Int) (l : List Int) : val (x :: l) = x + 4294967296 * val l := rfl
theorem qxZ : Dig [] := fun _ h => by cases h
theorem qkO {x : Int} {l : List Int} : Dig (x :: l) ↔ (0 ≤ x ∧ x < 4294967296) ∧ Dig l := by
  unfold Dig; simp
theorem q4Q {a b : List Int} : Dig (a ++ b) ↔ Dig a ∧ Dig b := by
  unfold Dig; simp only [List.mem_append]
  exact ⟨fun h => ⟨fun x hx => h x (.inl hx), fun x hx => h x (.inr hx)⟩, fun h x hx => hx.elim (h.1 x) (h.2 x)⟩
theorem q8C {n : Nat} {x : Int} (h : 0 ≤ x ∧ x < 4294967296) : Dig (List.replicate n x) := fun y hy => by rw [(List.mem_replicate.1 hy).2]; exact h
theorem qjN {a : List Int} (h : Dig a) (n : Nat) : Dig (a.take n) := fun x hx => h x (List.mem_of_mem_take hx)
theorem zvF {a : List Int} (h : Dig a) (n : Nat) : Dig (a.drop n) := fun x hx => h x (List.mem_of_mem_drop hx)
theorem qe0 {a : List Int} (h : Dig a) {i : Nat} (hi : i < a.length) : 0 ≤ a[i] ∧ a[i] < 4294967296 := h _ (List.getElem_mem hi)
theorem qpK {a : List Int} (h : Dig a) (i : Nat) {x : Int} (hx : 0 ≤ x ∧ x < 4294967296) : Dig (a.set i x) := fun y hy => (List.mem_or_eq_of_mem_set hy).elim (h y) (fun e => e ▸ hx)
theorem qbE : ∀ {l : List Int}, Dig l → 0 ≤ val l
  | [], _ => by simp
  | x :: l, h => by have := qbE (qkO.1 h).2; have := (qkO.1 h).1; simp; omega
theorem qlD : ∀ {l : List Int}, Dig l → val l < 4294967296 ^ l.length
  | [], _ => by simp
  | x :: l, h => by
    have h1 := qlD (qkO.1 h).2
    have h2 := (qkO.1 h).1
    simp only [qpV, List.length_cons, Int.pow_succ]
    omega
theorem qkQ : ∀ (a b : List Int), val (a ++ b) = val a + 4294967296 ^ a.length * val b
  | [], b => by simp
  | x :: a, b => by
    simp only [List.cons_append, qpV, List.length_cons, qkQ a b, Int.pow_succ]
    grind
theorem q0L (n : Nat) : val (List.replicate n 0) = 0 := by
  induction n with
  | zero => rfl
  | succ n ih => simp [List.replicate_succ, ih]
theorem zqE : ∀ {l : List Int}, (∀ x ∈ l, x = 0) → val l = 0
  | [], _ => rfl
  | x :: l, h => by rw [qpV, zqE (fun y hy => h y (List.mem_cons_of_mem _ hy)), h x (List.mem_cons_self ..)]; rfl
theorem qoG (a : List Int) (n : Nat) (h : n ≤ a.length) : val a = val (a.take n) + 4294967296 ^ n * val (a.drop n) := by
  have := qkQ (a.take n) (a.drop n)
  rw [List.take_append_drop, List.length_take, Nat.min_eq_left h] at this
  exact this
theorem qqQ : ∀ {a : List Int} {i : Nat} (h : i < a.length) (x : Int), val (a.set i x) = val a + 4294967296 ^ i * (x - a[i])
  | y :: a, 0, _, x => by simp; omega
  | y :: a, i + 1, h, x => by
    have := qqQ (a := a) (i := i) (by simpa using h) x
    simp only [List.set_cons_succ, qpV, this, List.getElem_cons_succ, Int.pow_succ]
    grind
theorem qq8 {m n : Nat} (h : m ≤ n) : (4294967296 : Int) ^ m ≤ 4294967296 ^ n := by
  obtain ⟨k, rfl⟩ := Nat.exists_eq_add_of_le h
  rw [Int.pow_add]
  have h1 : (0 : Int) < 4294967296 ^ m := Int.pow_pos (by decide)
  have h2 : (0 : Int) < 4294967296 ^ k := Int.pow_pos (by decide)
  have := Int.mul_le_mul_of_nonneg_left (show (1 : Int) ≤ 4294967296 ^ k from h2) (Int.le_of_lt h1)
  rw [Int.mul_one] at this; exact this
theorem qe2 (n : Nat) : (0 : Int) < 4294967296 ^ n := Int.pow_pos (by decide)
def digN (n : Nat) : List Int := if n = 0 then [] else ((n % 4294967296 : Nat) : Int) :: digN (n / 4294967296)
def digs (z : Int) : List Int := digN z.toNat
theorem qz8 : digN 0 = [] := by rw [digN, if_pos rfl]
theorem zbH {n : Nat} (h : n ≠ 0) : digN n = ((n % 4294967296 : Nat) : Int) :: digN (n / 4294967296) := by rw [digN, if_neg h]
theorem zvG (n : Nat) : Dig (digN n) := by
  induction n using Nat.strongRecOn with
  | ind n ih =>
    by_cases h : n = 0
    · rw [h, qz8]; exact qxZ
    · rw [zbH h, qkO]; exact ⟨by omega, ih _ (by omega)⟩
theorem zuG (n : Nat) : val (digN n) = n := by
  induction n using Nat.strongRecOn with
  | ind n ih =>
    by_cases h : n = 0
    · rw [h, qz8]; rfl
    · rw [zbH h, qpV, ih _ (by omega)]; omega
theorem qeG (z : Int) : Dig (digs z) := zvG _
theorem qf1 {z : Int} (h : 0 ≤ z) : val (digs z) = z := by unfold digs; rw [zuG]; omega
theorem qgT : digs 0 = [] := qz8
theorem zjS {z : Int} (h : 0 < z) : digs z = z % 4294967296 :: digs (z / 4294967296) := by
  unfold digs
  rw [zbH (by omega)]
  congr 1
  · omega
  · congr 1; omega
theorem qlJ {z : Int} (h : 0 ≤ z) : digs z = [] ↔ z = 0 := by
  constructor
  · intro e
    have := qf1 h
    rw [e] at this; exact this.symm
  · rintro rfl; exact qgT
theorem qq5 {z : Int} {n : Nat} (h : z < 4294967296 ^ n) : (digs z).length ≤ n := by
  induction n generalizing z with
  | zero => unfold digs; rw [show z.toNat = 0 by simp at h; omega, qz8]; simp
  | succ n ih =>
    by_cases hz : 0 < z
    · rw [zjS hz, List.length_cons]
      have := ih (z := z / 4294967296) (by rw [Int.pow_succ] at h; omega)
      omega
    · unfold digs; rw [show z.toNat = 0 by omega, qz8]; simp
def Can : List Int → Prop
  | [] => True
  | x :: l => (0 ≤ x ∧ x < 4294967296) ∧ Can l ∧ (l = [] → x ≠ 0)
theorem zp5 : ∀ {l : List Int}, Can l → 0 ≤ val l ∧ (l ≠ [] → 0 < val l)
  | [], _ => ⟨by simp, fun h => absurd rfl h⟩
  | x :: l, h => by
    have h1 := zp5 h.2.1
    obtain ⟨h2, h3, h4⟩ := h
    by_cases hl : l = []
    · subst hl; have := h4 rfl; simp; omega
    · have := h1.2 hl; simp; omega
theorem q08 : ∀ {l : List Int}, Can l → digs (val l) = l
  | [], _ => qgT
  | x :: l, h => by
    have h1 := zp5 h
    rw [zjS (h1.2 (by simp))]
    have h2 := zp5 h.2.1
    obtain ⟨h3, h4, h5⟩ := h
    rw [show val (x :: l) % 4294967296 = x by simp; omega, show val (x :: l) / 4294967296 = val l by simp; omega, q08 h4]
theorem zvK (n : Nat) : Can (digN n) := by
  induction n using Nat.strongRecOn with
  | ind n ih =>
    by_cases h : n = 0
    · rw [h, qz8]; trivial
    · rw [zbH h]
      refine ⟨by omega, ih _ (by omega), fun e => ?_⟩
      by_cases h2 : n / 4294967296 = 0
      · omega
      · rw [zbH h2] at e; cases e
theorem qyZ (z : Int) : Can (digs z) := zvK _
theorem q8D : ∀ {l : List Int}, Dig l → (∀ x, l.getLast? = some x → x ≠ 0) → Can l
  | [], _, _ => trivial
  | [x], h, hl => ⟨(qkO.1 h).1, trivial, fun _ => hl x rfl⟩
  | x :: y :: l, h, hl => ⟨(qkO.1 h).1, q8D (qkO.1 h).2 (fun z hz => hl z (by rw [List.getLast?_cons_cons]; exact hz)), fun e => by cases e⟩
theorem zq3 : ∀ {l : List Int}, Can l → ∀ hl : l ≠ [], l.getLast hl ≠ 0
  | [x], h, _ => h.2.2 rfl
  | x :: y :: l, h, _ => by rw [List.getLast_cons (by simp)]; exact zq3 h.2.1 (by simp)
theorem ztR : ∀ {l : List Int} (_ : Can l), Dig l
  | [], _ => qxZ
  | _ :: _, h => qkO.2 ⟨h.1, ztR h.2.1⟩
theorem zwO : ∀ {l : List Int}, Can l → l ≠ [] → 4294967296 ^ (l.length - 1) ≤ val l
  | [x], h, _ => by have := h.2.2 rfl; have := h.1; simp; omega
  | x :: y :: l, h, _ => by
    have h1 := zwO h.2.1 (by simp)
    have h2 := h.1
    simp only [List.length_cons, Nat.add_sub_cancel, qpV] at h1 ⊢
    rw [Int.pow_succ]
    omega
theorem q8B {z : Int} {n : Nat} (h0 : 0 ≤ z) (h : (digs z).length ≤ n) : z < 4294967296 ^ n := by
  have h1 := qlD (qeG z)
  rw [qf1 h0] at h1
  exact Int.lt_of_lt_of_le h1 (qq8 h)
theorem zqV : ∀ {a : List Int}, Dig a → a = digs (val a) ++ List.replicate (a.length - (digs (val a)).length) 0
  | [], _ => by simp [qgT]
  | x :: l, h => by
    have h1 := zqV (qkO.1 h).2
    have h2 := (qkO.1 h).1
    have h3 := qbE (qkO.1 h).2
    by_cases hz : val (x :: l) = 0
    · rw [hz, qgT]
      simp only [qpV] at hz
      have hx : x = 0 := by omega
      have hl : val l = 0 := by omega
      rw [hl, qgT] at h1
      simp only [List.nil_append, List.length_nil, Nat.sub_zero] at h1 ⊢
      subst hx
      rw [List.length_cons, List.replicate_succ, ← h1]
    · have hp : 0 < val (x :: l) := by have := qbE h; omega
      rw [zjS hp, show val (x :: l) % 4294967296 = x by simp; omega, show val (x :: l) / 4294967296 = val l by simp; omega]
      rw [List.cons_append, List.length_cons, List.length_cons, Nat.add_sub_add_right, ← h1]
theorem qeX {a : List Int} (h : Dig a) : (digs (val a)).length ≤ a.length := qq5 (qlD h)
abbrev vi (k : IntKind) (n : Int) : V := .c (C.t (T.int k n))
abbrev vl {α : Type} (sz : Nat) (l : List α) (f : α → List T) : V := .c (C.t (T.sl sz (l.map f)))
abbrev tl {α : Type} (sz : Nat) (l : List α) (f : α → List T) : TV := .c (T.sl sz (l.map f))
abbrev ti (k : IntKind) (n : Int) : TV := .c (T.int k n)
def qaC (x : Int) : List T := [T.int .u32 x]
def qaF (x : List Int) : List T := [T.sl 1 (x.map qaC)]
def zxS (x : Bool) : List T := [T.bool x]
structure qaB where
  Neg : Bool
  Abs : (List Int)
def qaA (x : qaB) : List T := [(T.bool x.Neg), (T.sl 1 (x.Abs.map qaC))]
def qd4 (x : Int) : List T := [T.int .i64 x]
def qaD (x : List qaB) : List T := [T.sl 2 (x.map qaA)]
structure qeN where
  e0 : (List (List qaB))
  e1 : (List (List qaB))
def qgD (x : qeN) : List T := [(T.sl 1 (x.e0.map qaD)), (T.sl 1 (x.e1.map qaD))]
structure qyA where
  e0 : Int
  e1 : Int
  e2 : Int
def qgV (x : qyA) : List T := [(T.int .i8 x.e0), (T.int .i8 x.e1), (T.int .i8 x.e2)]
def zjY (x : List qyA) : List T := [T.sl 3 (x.map qgV)]
def qbY : List Int := [0, 1, 2, 2, 3, 3, 3, 3, 4, 4, 4, 4, 4, 4, 4, 4, 5, 5, 5, 5, 5, 5, 5, 5, 5, 5, 5, 5, 5, 5, 5, 5, 6, 6, 6, 6, 6, 6, 6, 6, 6, 6, 6, 6, 6, 6, 6, 6, 6, 6, 6, 6, 6, 6, 6, 6, 6, 6, 6, 6, 6, 6, 6, 6, 7, 7, 7, 7, 7, 7, 7, 7, 7, 7, 7, 7, 7, 7, 7, 7, 7, 7, 7, 7, 7, 7, 7, 7, 7, 7, 7, 7, 7, 7, 7, 7, 7, 7, 7, 7, 7, 7, 7, 7, 7, 7, 7, 7, 7, 7, 7, 7, 7, 7, 7, 7, 7, 7, 7, 7, 7, 7, 7, 7, 7, 7, 7, 7, 8, 8, 8, 8, 8, 8, 8, 8, 8, 8, 8, 8, 8, 8, 8, 8, 8, 8, 8, 8, 8, 8, 8, 8, 8, 8, 8, 8, 8, 8, 8, 8, 8, 8, 8, 8, 8, 8, 8, 8, 8, 8, 8, 8, 8, 8, 8, 8, 8, 8, 8, 8, 8, 8, 8, 8, 8, 8, 8, 8, 8, 8, 8, 8, 8, 8, 8, 8, 8, 8, 8, 8, 8, 8, 8, 8, 8, 8, 8, 8, 8, 8, 8, 8, 8, 8, 8, 8, 8, 8, 8, 8, 8, 8, 8, 8, 8, 8, 8, 8, 8, 8, 8, 8, 8, 8, 8, 8, 8, 8, 8, 8, 8, 8, 8, 8, 8, 8, 8, 8, 8, 8, 8, 8, 8, 8, 8, 8]
open Go.Proofs.Try (prog)
inductive qp3 where
 | c0 (a : (List Int))
 | c1 (a : (List Int)) (n : Int)
 | c2 (a : (List Int)) (n : Int)
def qcT : Nat → qp3 → Option (List Int)
 | 0, _ => none
 | K + 1, .c0 a =>
  qcT K (.c1 a (a.length : Int))
 | K + 1, .c1 a n =>
  bif (decide ((0 : Int) < n)) then
   (gi a (wI6 (n - (1 : Int)))).bind fun x2 =>
   bif (decide (x2 = (0 : Int))) then
    qcT K (.c1 a (wI6 (n - (1 : Int))))
   else
    qcT K (.c2 a n)
  else
   qcT K (.c2 a n)
 | _ + 1, .c2 a n =>
  bif (decide (n = (0 : Int))) then
   some []
  else
   gd (0 ≤ n ∧ 0 ≤ n.toNat ∧ n.toNat ≤ a.length) <|
   some (a.take n.toNat)
def qcD (K : Nat) (a : (List Int)) : Option (List Int) := qcT K (.c0 a)
noncomputable def qiX : Code := qbQ prog 144
noncomputable def zeR : qp3 → List Fr
 | .c0 .. => [.code qiX]
 | .c1 .. => [.code (.loop (atC qiX [1,1,0,0,0])), .blk 0, .code (atC qiX [1,1,1])]
 | .c2 .. => [.code (atC qiX [1,1,1,0,0]), .code (atC qiX [1,1,1,0,1]), .code (atC qiX [1,1,1,1])]
def zg4 : qp3 → St
 | .c0 a => St.init [(tl 1 a qaC)]
 | .c1 a n => ⟨[(0, vl 1 a qaC), (3, vi .i64 n)], [], []⟩
 | .c2 a n => ⟨[(0, vl 1 a qaC), (3, vi .i64 n)], [], []⟩
def quE (cx : Cx) (c : qp3) (r : (List Int)) : Prop := Wk prog cx (qc2 prog 144 [[1]] (tl 1 r qaC)) (zeR c) .normal (zg4 c)
abbrev quF (K : Nat) : Prop := ∀ c r, qcT K c = some r → ∀ cx : Cx, cx.n = 23 → quE cx c r
theorem zg7 {K} (ih : quF K) {cx} (hn : cx.n = 23) {a} {r} (h : qcT (K + 1) (.c0 a) = some r) : quE cx (.c0 a) r := by
 rw [qcT] at h
 exact wkG [rg1, rgG [oo, opI (.ln (a.length : Int)), oo], .pre [.keep [0,3] []]] hn (aC (qaX a qaC) <| aN) (ih _ _ h cx hn)
theorem zg6 {K} (ih : quF K) {cx} (hn : cx.n = 23) {a n} {r} (h : qcT (K + 1) (.c1 a n) = some r) : quE cx (.c1 a n) r := by
 rw [qcT] at h
 rcases qaQ h with ⟨h1, h⟩ | ⟨h1, h⟩
 ·obtain ⟨x2, h3, h⟩ := qaH h
  rcases qaQ h with ⟨h4, h⟩ | ⟨h4, h⟩
  ·exact wkG [.go, rgG [oo, oo, oo, .sb 8 true, oo, oo, oo, opI (.ix (qaC x2)), oo, oo, oo], bTr, rg3, .pre [.keep [0,3] []]] hn (aC h1 <| aC (qa1 h3) <| aC (qbS qaC h3) <| aC h4 <| aN) (ih _ _ h cx hn)
  ·exact wkG [.go, rgG [oo, oo, oo, .sb 8 true, oo, oo, oo, opI (.ix (qaC x2)), oo, oo, oo], bFa, .pre [.keep [0,3] []]] hn (aC h1 <| aC (qa1 h3) <| aC (qbS qaC h3) <| aC h4 <| aN) (ih _ _ h cx hn)
 ·exact wkG [.go, rgG [oo, oo, oo, .sb 8 false, oo, oo, oo, oo, oo, oo, oo], bFa, .pre [.keep [0,3] []]] hn (aC h1 <| aC rf <| aN) (ih _ _ h cx hn)
theorem zg5 {K} (_ : quF K) {cx} (hn : cx.n = 23) {a n} {r} (h : qcT (K + 1) (.c2 a n) = some r) : quE cx (.c2 a n) r := by
 rw [qcT] at h
 rcases qaQ h with ⟨h1, h⟩ | ⟨h1, h⟩
 ·have h := oinj h; subst h
  exact wkR [rg2, bTr, rg1] hn (aC h1 <| aN)
 ·obtain ⟨h2, h⟩ := qbI h
  have h := oinj h; subst h
  exact wkR [rg2, bFa, rgG [oo, oo, opI (.slT 0 n.toNat ((a.take n.toNat).map qaC)), oo]] hn (aC h1 <| aC r0 <| aC (⟨h2.1, rfl⟩ : 0 ≤ n ∧ n.toNat = n.toNat) <| aC h2.2.1 <| aC (ze8 _ h2.2.2 : n.toNat ≤ (a.map qaC).length) <| aC (q27 _ _ _ : ((a.map qaC).take n.toNat).drop 0 = (a.take n.toNat).map qaC) <| aN)
theorem qp2 : ∀ K : Nat, quF K
 | 0, c, r, h => by rw [qcT] at h; cases h
 | K + 1, .c0 .., r, h => fun cx hn => zg7 (qp2 K) hn h
 | K + 1, .c1 .., r, h => fun cx hn => zg6 (qp2 K) hn h
 | K + 1, .c2 .., r, h => fun cx hn => zg5 (qp2 K) hn h
theorem qaU {K : Nat} {a : (List Int)} {r : (List Int)} (h : qcD K a = some r) : qc5 prog 144 [(tl 1 a qaC)] (tl 1 r qaC) :=
 qa0 [[1]] (by kernel_rfl) (by simp) fun cx hn => qp2 K (.c0 a) r h cx hn
open Go.Proofs.Try (prog)
inductive qnB where
 | c0 (a : (List Int))
def qiY : Nat → qnB → Option (List Int)
 | 0, _ => none
 | K + 1, .c0 a =>
  (qcD K a).bind fun x1 =>
  gd (x1.length * 4 ≤ 140737488355328) <|
  some x1
def qiT (K : Nat) (a : (List Int)) : Option (List Int) := qiY K (.c0 a)
noncomputable def q66 : Code := qbQ prog 148
noncomputable def q85 : qnB → List Fr
 | .c0 .. => [.code q66]
def zcB : qnB → St
 | .c0 a => St.init [(tl 1 a qaC)]
def q1Q (cx : Cx) (c : qnB) (r : (List Int)) : Prop := Wk prog cx (qc2 prog 148 [[1]] (tl 1 r qaC)) (q85 c) .normal (zcB c)
abbrev q1R (K : Nat) : Prop := ∀ c r, qiY K c = some r → ∀ cx : Cx, cx.n = 6 → q1Q cx c r
theorem zcC {K} (_ : q1R K) {cx} (hn : cx.n = 6) {a} {r} (h : qiY (K + 1) (.c0 a) = some r) : q1Q cx (.c0 a) r := by
 rw [qiY] at h
 obtain ⟨x1, h2, h⟩ := qaH h
 obtain ⟨h3, h⟩ := qbI h
 have h := oinj h; subst h
 exact wkR [rg1, rgG [oo, opI (.call [[1]] [(tl 1 a qaC)] (tl 1 x1 qaC)), .appT (x1.map qaC), oo]] hn (aC (qaU h2) <| aC (rfl : x1.map qaC = x1.map qaC) <| aC ((qeF _ _).symm ▸ h3 : (x1.map qaC).length * 4 ≤ 140737488355328) <| aC ((qeF _ _).symm ▸ room (by decide) h3 : (x1.map qaC).length ≤ maxLen) <| aN)
theorem qyF : ∀ K : Nat, q1R K
 | 0, c, r, h => by rw [qiY] at h; cases h
 | K + 1, .c0 .., r, h => fun cx hn => zcC (qyF K) hn h
theorem qfB {K : Nat} {a : (List Int)} {r : (List Int)} (h : qiT K a = some r) : qc5 prog 148 [(tl 1 a qaC)] (tl 1 r qaC) :=
 qa0 [[1]] (by kernel_rfl) (by simp) fun cx hn => qyF K (.c0 a) r h cx hn
open Go.Proofs.Try (prog)
inductive qnC where
 | c0 (a : (List Int))
def qiZ : Nat → qnC → Option Bool
 | 0, _ => none
 | K + 1, .c0 a =>
  (qcD K a).bind fun x1 =>
  some (decide ((x1.length : Int) = (0 : Int)))
def qmK (K : Nat) (a : (List Int)) : Option Bool := qiZ K (.c0 a)
noncomputable def q67 : Code := qbQ prog 97
noncomputable def q86 : qnC → List Fr
 | .c0 .. => [.code q67]
def zcE : qnC → St
 | .c0 a => St.init [(tl 1 a qaC)]
def q1S (cx : Cx) (c : qnC) (r : Bool) : Prop := Wk prog cx (qc2 prog 97 [[0]] (TV.c (T.bool r))) (q86 c) .normal (zcE c)
abbrev q1T (K : Nat) : Prop := ∀ c r, qiZ K c = some r → ∀ cx : Cx, cx.n = 7 → q1S cx c r
theorem zcF {K} (_ : q1T K) {cx} (hn : cx.n = 7) {a} {r} (h : qiZ (K + 1) (.c0 a) = some r) : q1S cx (.c0 a) r := by
 rw [qiZ] at h
 obtain ⟨x1, h2, h⟩ := qaH h
 have h := oinj h; subst h
 exact wkR [rg1, rgG [oo, opI (.call [[1]] [(tl 1 a qaC)] (tl 1 x1 qaC)), opI (.ln (x1.length : Int)), oo, oo]] hn (aC (qaU h2) <| aC (qaX x1 qaC) <| aN)
theorem qyG : ∀ K : Nat, q1T K
 | 0, c, r, h => by rw [qiZ] at h; cases h
 | K + 1, .c0 .., r, h => fun cx hn => zcF (qyG K) hn h
theorem qgX {K : Nat} {a : (List Int)} {r : Bool} (h : qmK K a = some r) : qc5 prog 97 [(tl 1 a qaC)] (TV.c (T.bool r)) :=
 qa0 [[0]] (by kernel_rfl) (by simp) fun cx hn => qyG K (.c0 a) r h cx hn
open Go.Proofs.Try (prog)
inductive quH where
 | c0 (n : Int)
def qoM : Nat → quH → Option (List Int)
 | 0, _ => none
 | K + 1, .c0 n =>
  (qcD K ([(wU3 n), (wU3 (qd2 .u64 n (32 : Int)))] : List Int)).bind fun x1 =>
  some x1
def qwL (K : Nat) (n : Int) : Option (List Int) := qoM K (.c0 n)
noncomputable def zhC : Code := qbQ prog 129
noncomputable def zkW : quH → List Fr
 | .c0 .. => [.code zhC]
def znH : quH → St
 | .c0 n => St.init [(ti .u64 n)]
def zd6 (cx : Cx) (c : quH) (r : (List Int)) : Prop := Wk prog cx (qc2 prog 129 [[1]] (tl 1 r qaC)) (zkW c) .normal (znH c)
abbrev zd7 (K : Nat) : Prop := ∀ c r, qoM K c = some r → ∀ cx : Cx, cx.n = 10 → zd6 cx c r
theorem znI {K} (_ : zd7 K) {cx} (hn : cx.n = 10) {n} {r} (h : qoM (K + 1) (.c0 n) = some r) : zd6 cx (.c0 n) r := by
 rw [qoM] at h
 obtain ⟨x1, h2, h⟩ := qaH h
 have h := oinj h; subst h
 exact wkR [rg1, rgG [oo, oo, oo, oo, oo, opI (.lit (([(wU3 n), (wU3 (qd2 .u64 n (32 : Int)))] : List Int).map qaC)), .snap 8 (max 0 (0 + 2)) (([(wU3 n), (wU3 (qd2 .u64 n (32 : Int)))] : List Int).map qaC), opI (.call [[1]] [(TV.c (T.sl 1 (([(wU3 n), (wU3 (qd2 .u64 n (32 : Int)))] : List Int).map qaC)))] (tl 1 x1 qaC)), oo]] hn (aC (by kernel_rfl : [(T.int .u32 (wU3 n)), (T.int .u32 (wU3 (qd2 .u64 n (32 : Int))))] = (([(wU3 n), (wU3 (qd2 .u64 n (32 : Int)))] : List Int).map qaC).flatten) <| aC (qbJ _ _ _ (by simp) : ((([(wU3 n), (wU3 (qd2 .u64 n (32 : Int)))] : List Int).map qaC).drop 0).take 2 = ([(wU3 n), (wU3 (qd2 .u64 n (32 : Int)))] : List Int).map qaC) <| aC (rfl : (max 0 (0 + 2)) = (max 0 (0 + 2))) <| aC (qaU h2) <| aN)
theorem q50 : ∀ K : Nat, zd7 K
 | 0, c, r, h => by rw [qoM] at h; cases h
 | K + 1, .c0 .., r, h => fun cx hn => znI (q50 K) hn h
theorem qvK {K : Nat} {n : Int} {r : (List Int)} (h : qwL K n = some r) : qc5 prog 129 [(ti .u64 n)] (tl 1 r qaC) :=
 qa0 [[1]] (by kernel_rfl) (by simp) fun cx hn => q50 K (.c0 n) r h cx hn
open Go.Proofs.Try (prog)
inductive qrX where
 | c0 (a : (List Int)) (b : (List Int))
 | c1 (a : (List Int)) (b : (List Int)) (i : Int)
def qe5 : Nat → qrX → Option Int
 | 0, _ => none
 | K + 1, .c0 a b =>
  (qcD K a).bind fun x1 =>
  (qcD K b).bind fun x3 =>
  bif (decide ((x3.length : Int) < (x1.length : Int))) then
   some (1 : Int)
  else
   bif (decide ((x1.length : Int) < (x3.length : Int))) then
    some (-1 : Int)
   else
    qe5 K (.c1 x1 x3 (wI6 ((x1.length : Int) - (1 : Int))))
 | K + 1, .c1 a b i =>
  bif (decide ((0 : Int) ≤ i)) then
   (gi a i).bind fun x2 =>
   (gi b i).bind fun x4 =>
   bif (decide (x4 < x2)) then
    some (1 : Int)
   else
    (gi a i).bind fun x7 =>
    (gi b i).bind fun x9 =>
    bif (decide (x7 < x9)) then
     some (-1 : Int)
    else
     qe5 K (.c1 a b (wI6 (i - (1 : Int))))
  else
   some (0 : Int)
def qn1 (K : Nat) (a : (List Int)) (b : (List Int)) : Option Int := qe5 K (.c0 a b)
noncomputable def qvL : Code := qbQ prog 108
noncomputable def zhE : qrX → List Fr
 | .c0 .. => [.code qvL]
 | .c1 .. => [.code (.loop (atC qvL [1,1,1,0,1,0,0])), .blk 1, .code (atC qvL [1,1,1,1])]
def zk3 : qrX → St
 | .c0 a b => St.init [(tl 1 a qaC), (tl 1 b qaC)]
 | .c1 a b i => ⟨[(0, vl 1 a qaC), (1, vl 1 b qaC), (5, vi .i64 i)], [], []⟩
def q0V (cx : Cx) (c : qrX) (r : Int) : Prop := Wk prog cx (qc2 prog 108 [[0]] (ti .i64 r)) (zhE c) .normal (zk3 c)
abbrev q0W (K : Nat) : Prop := ∀ c r, qe5 K c = some r → ∀ cx : Cx, cx.n = 47 → q0V cx c r
theorem zk5 {K} (ih : q0W K) {cx} (hn : cx.n = 47) {a b} {r} (h : qe5 (K + 1) (.c0 a b) = some r) : q0V cx (.c0 a b) r := by
 rw [qe5] at h
 obtain ⟨x1, h2, h⟩ := qaH h
 obtain ⟨x3, h4, h⟩ := qaH h
 rcases qaQ h with ⟨h5, h⟩ | ⟨h5, h⟩
 ·have h := oinj h; subst h
  exact wkR [rg1, rgG [oo, opI (.call [[1]] [(tl 1 a qaC)] (tl 1 x1 qaC)), oo, opI (.call [[1]] [(tl 1 b qaC)] (tl 1 x3 qaC)), oo, oo], rgG [oo, opI (.ln (x1.length : Int)), oo, opI (.ln (x3.length : Int)), oo, oo], bTr, rg1] hn (aC (qaU h2) <| aC (qaU h4) <| aC (qaX x1 qaC) <| aC (qaX x3 qaC) <| aC h5 <| aN)
 ·rcases qaQ h with ⟨h6, h⟩ | ⟨h6, h⟩
  ·have h := oinj h; subst h
   exact wkR [rg1, rgG [oo, opI (.call [[1]] [(tl 1 a qaC)] (tl 1 x1 qaC)), oo, opI (.call [[1]] [(tl 1 b qaC)] (tl 1 x3 qaC)), oo, oo], rgG [oo, opI (.ln (x1.length : Int)), oo, opI (.ln (x3.length : Int)), oo, oo], bFa, rgG [oo, opI (.ln (x1.length : Int)), oo, opI (.ln (x3.length : Int)), oo, oo], bTr, rg1] hn (aC (qaU h2) <| aC (qaU h4) <| aC (qaX x1 qaC) <| aC (qaX x3 qaC) <| aC h5 <| aC (qaX x1 qaC) <| aC (qaX x3 qaC) <| aC h6 <| aN)
  ·exact wkG [rg1, rgG [oo, opI (.call [[1]] [(tl 1 a qaC)] (tl 1 x1 qaC)), oo, opI (.call [[1]] [(tl 1 b qaC)] (tl 1 x3 qaC)), oo, oo], rgG [oo, opI (.ln (x1.length : Int)), oo, opI (.ln (x3.length : Int)), oo, oo], bFa, rgG [oo, opI (.ln (x1.length : Int)), oo, opI (.ln (x3.length : Int)), oo, oo], bFa, rgG [oo, opI (.ln (x1.length : Int)), oo, oo], .pre [.keep [0,1,5] []]] hn (aC (qaU h2) <| aC (qaU h4) <| aC (qaX x1 qaC) <| aC (qaX x3 qaC) <| aC h5 <| aC (qaX x1 qaC) <| aC (qaX x3 qaC) <| aC h6 <| aC (qaX x1 qaC) <| aN) (ih _ _ h cx hn)
theorem zk4 {K} (ih : q0W K) {cx} (hn : cx.n = 47) {a b i} {r} (h : qe5 (K + 1) (.c1 a b i) = some r) : q0V cx (.c1 a b i) r := by
 rw [qe5] at h
 rcases qaQ h with ⟨h1, h⟩ | ⟨h1, h⟩
 ·obtain ⟨x2, h3, h⟩ := qaH h
  obtain ⟨x4, h5, h⟩ := qaH h
  rcases qaQ h with ⟨h6, h⟩ | ⟨h6, h⟩
  ·have h := oinj h; subst h
   exact wkR [.go, rg2, bTr, .draw [.p, .p, (.ix (qaC x2)), .p, .p, .p, (.ix (qaC x4)), .p] [.op .p], bTr, rg1] hn (aC h1 <| aC (qa1 h3) <| aC (qbS qaC h3) <| aC (qa1 h5) <| aC (qbS qaC h5) <| aC h6 <| aN)
  ·obtain ⟨x7, h8, h⟩ := qaH h
   obtain ⟨x9, h10, h⟩ := qaH h
   rcases qaQ h with ⟨h11, h⟩ | ⟨h11, h⟩
   ·have h := oinj h; subst h
    exact wkR [.go, rg2, bTr, .draw [.p, .p, (.ix (qaC x2)), .p, .p, .p, (.ix (qaC x4)), .p] [.op .p], bFa, .draw [.p, .p, (.ix (qaC x7)), .p, .p, .p, (.ix (qaC x9)), .p] [.op .p], bTr, rg1] hn (aC h1 <| aC (qa1 h3) <| aC (qbS qaC h3) <| aC (qa1 h5) <| aC (qbS qaC h5) <| aC h6 <| aC (qa1 h8) <| aC (qbS qaC h8) <| aC (qa1 h10) <| aC (qbS qaC h10) <| aC h11 <| aN)
   ·exact wkG [.go, rg2, bTr, .draw [.p, .p, (.ix (qaC x2)), .p, .p, .p, (.ix (qaC x4)), .p] [.op .p], bFa, .draw [.p, .p, (.ix (qaC x7)), .p, .p, .p, (.ix (qaC x9)), .p] [.op .p], bFa, rg3, .pre [.keep [0,1,5] []]] hn (aC h1 <| aC (qa1 h3) <| aC (qbS qaC h3) <| aC (qa1 h5) <| aC (qbS qaC h5) <| aC h6 <| aC (qa1 h8) <| aC (qbS qaC h8) <| aC (qa1 h10) <| aC (qbS qaC h10) <| aC h11 <| aN) (ih _ _ h cx hn)
 ·have h := oinj h; subst h
  exact wkR [.go, rg2, bFa, rg1] hn (aC h1 <| aN)
theorem qw2 : ∀ K : Nat, q0W K
 | 0, c, r, h => by rw [qe5] at h; cases h
 | K + 1, .c0 .., r, h => fun cx hn => zk5 (qw2 K) hn h
 | K + 1, .c1 .., r, h => fun cx hn => zk4 (qw2 K) hn h
theorem qe4 {K : Nat} {a : (List Int)} {b : (List Int)} {r : Int} (h : qn1 K a b = some r) : qc5 prog 108 [(tl 1 a qaC), (tl 1 b qaC)] (ti .i64 r) :=
 qa0 [[0]] (by kernel_rfl) (by simp) fun cx hn => qw2 K (.c0 a b) r h cx hn
theorem qxR {a : List Int} {n : Nat} (h : a[n]? = some 0) : val (a.take (n + 1)) = val (a.take n) := by
  obtain ⟨hn, h1⟩ := List.getElem?_eq_some_iff.1 h
  have h2 : a.take (n + 1) = a.take n ++ [0] := by rw [List.take_add_one, h]; rfl
  rw [h2, qkQ]; simp
theorem q3C {a : List Int} {n : Nat} (hd : Dig a) (hn : n ≤ a.length) (hz : n ≠ 0 → a[n - 1]? ≠ some 0) : Ev (fun K => qcT K (.c2 a n)) (digs (val (a.take n))) := by
  refine qaJ ?_
  simp only [qcT]
  by_cases h : n = 0
  · subst h
    refine ev_t (by simp) ?_
    rw [List.take_zero, q6X, qgT]; exact qaT _
  · refine ev_f (by simp; exact h) (qeZ (by simp; exact hn) ?_)
    rw [Int.toNat_natCast, q08]
    · exact qaT _
    · refine q8D (qjN hd n) fun x hx => ?_
      rw [List.getLast?_take, if_neg h] at hx
      rintro rfl
      have hn1 : n - 1 < a.length := by omega
      rw [List.getElem?_eq_getElem hn1] at hx
      have := hz h
      rw [List.getElem?_eq_getElem hn1] at this
      simp at hx this
      exact this hx
theorem q3D {a : List Int} (hd : Dig a) (hs : a.length < 4611686018427387904) : ∀ {n : Nat}, n ≤ a.length → Ev (fun K => qcT K (.c1 a n)) (digs (val (a.take n)))
  | 0, hn => by
    refine qaJ ?_
    simp only [qcT]
    exact ev_f (by simp) (q3C hd hn (fun h => absurd rfl h))
  | n + 1, hn => by
    refine qaJ ?_
    simp only [qcT]
    refine ev_t (by simp) ?_
    rw [qbR (by omega), show ((n + 1 : Nat) : Int) - 1 = (n : Int) by omega]
    refine qa3 (qbN (by omega)) ?_
    by_cases h : a[n]'(by omega) = 0
    · refine ev_t (by simp [h]) ?_
      have := q3D hd hs (n := n) (by omega)
      rw [qxR (by rw [List.getElem?_eq_getElem (by omega), h])]
      exact this
    · refine ev_f (by simp [h]) (q3C hd hn fun _ => ?_)
      rw [Nat.add_sub_cancel, List.getElem?_eq_getElem (by omega)]
      simpa using h
theorem qb2 {a : List Int} (hd : Dig a) (hs : a.length < 4611686018427387904) : Ev (fun K => qcD K a) (digs (val a)) := by
  refine qaJ ?_
  simp only [qcD, qcT]
  have := q3D hd hs (Nat.le_refl _)
  rw [List.take_length] at this
  exact this
theorem zb7 (z : Int) (hz : 0 ≤ z) (hs : (digs z).length < 4611686018427387904) : Ev (fun K => qcD K (digs z)) (digs z) := by
  have := qb2 (qeG z) hs
  rwa [qf1 hz] at this
theorem qoN {a : List Int} (hd : Dig a) (hs : a.length ≤ 34359738368) : Ev (fun K => qiT K a) (digs (val a)) := by
  refine qaJ ?_
  simp only [qiT, qiY]
  refine qaG (qb2 hd (by omega)) (qeZ ?_ (qaT _))
  have := qeX hd
  omega
theorem qtL {a : List Int} (hd : Dig a) (hs : a.length < 4611686018427387904) : Ev (fun K => qmK K a) (decide (val a = 0)) := by
  refine qaJ ?_
  simp only [qmK, qiZ]
  refine qaG (qb2 hd hs) (qeW (qaT _) ?_)
  have := qlJ (qbE hd)
  rw [decide_eq_decide, ← this]
  simp
theorem q0T {n : Int} (h0 : 0 ≤ n) (h : n < 18446744073709551616) : Ev (fun K => qwL K n) (digs n) := by
  refine qaJ ?_
  simp only [qwL, qoM, q2K, zgB]
  have : val [n % 4294967296, n / 4294967296 % 4294967296] = n := by simp; omega
  have ht := qb2 (a := [n % 4294967296, n / 4294967296 % 4294967296]) (by simp only [qkO]; exact ⟨by omega, by omega, qxZ⟩) (by simp)
  rw [this] at ht
  exact qaG ht (qaT _)
def cmpI (x y : Int) : Int := if x < y then -1 else if y < x then 1 else 0
theorem q0M {a b : List Int} (ha : Can a) (hb : Can b) (h : a.length < b.length) : val a < val b := by
  have h1 := qlD (ztR ha)
  have h2 := zwO hb (by rintro rfl; simp at h)
  have h3 := qq8 (m := a.length) (n := b.length - 1) (by omega)
  omega
theorem q53 {a b : List Int} (ha : Dig a) (hb : Dig b) (hl : a.length = b.length) (hs : a.length < 4611686018427387904) : ∀ {n : Nat}, n ≤ a.length → a.drop n = b.drop n → Ev (fun K => qe5 K (.c1 a b ((n : Int) - 1))) (cmpI (val a) (val b))
  | 0, _, h => by
    refine qaJ ?_
    simp only [qe5]
    simp only [List.drop_zero] at h
    subst h
    refine ev_f (by simp) (qeW (qaT _) ?_)
    simp [cmpI]
  | n + 1, hn, h => by
    refine qaJ ?_
    simp only [qe5]
    rw [show ((n + 1 : Nat) : Int) - 1 = (n : Int) by omega]
    refine ev_t (by simp) (qa3 (qbN (by omega)) (qa3 (qbN (by omega)) ?_))
    have ea := qoG a n (by omega)
    have eb := qoG b n (by omega)
    rw [List.drop_eq_getElem_cons (by omega), qpV] at ea eb
    rw [h] at ea
    have la := qlD (qjN ha n)
    have lb := qlD (qjN hb n)
    have na := qbE (qjN ha n)
    have nb := qbE (qjN hb n)
    rw [List.length_take, Nat.min_eq_left (by omega)] at la lb
    have hp := qe2 n
    have key : ∀ x y P s t : Int, 0 < P → s < P → 0 ≤ t → x < y → s + P * x < t + P * y := by
      intro x y P s t h1 h2 h3 h4
      have := Int.mul_le_mul_of_nonneg_left (show x + 1 ≤ y by omega) (Int.le_of_lt h1)
      rw [Int.mul_add] at this
      omega
    by_cases h1 : b[n]'(by omega) < a[n]'(by omega)
    · refine ev_t (by simp [h1]) (qeW (qaT _) ?_)
      have := key _ _ _ _ _ hp lb na (show b[n]'(by omega) + 4294967296 * val (b.drop (n + 1)) < a[n]'(by omega) + 4294967296 * val (b.drop (n + 1)) by omega)
      unfold cmpI
      rw [if_neg (by omega), if_pos (by omega)]
    · refine ev_f (by simpa using h1) (qa3 (qbN (by omega)) (qa3 (qbN (by omega)) ?_))
      by_cases h2 : a[n]'(by omega) < b[n]'(by omega)
      · refine ev_t (by simp [h2]) (qeW (qaT _) ?_)
        have := key _ _ _ _ _ hp la nb (show a[n]'(by omega) + 4294967296 * val (b.drop (n + 1)) < b[n]'(by omega) + 4294967296 * val (b.drop (n + 1)) by omega)
        unfold cmpI
        rw [if_pos (by omega)]
      · refine ev_f (by simpa using h2) ?_
        rw [qbR (by omega)]
        refine q53 ha hb hl hs (by omega) ?_
        rw [List.drop_eq_getElem_cons (by omega), List.drop_eq_getElem_cons (l := b) (by omega), h]
        congr 1; omega
theorem qpO {a b : List Int} (ha : Dig a) (hb : Dig b) (hs : a.length < 4611686018427387904) (ht : b.length < 4611686018427387904) : Ev (fun K => qn1 K a b) (cmpI (val a) (val b)) := by
  refine qaJ ?_
  simp only [qn1, qe5]
  have va := qf1 (qbE ha)
  have vb := qf1 (qbE hb)
  refine qaG (qb2 ha hs) (qaG (qb2 hb ht) ?_)
  have l1 := qeX ha
  by_cases h1 : (digs (val b)).length < (digs (val a)).length
  · refine ev_t (by simpa using h1) (qeW (qaT _) ?_)
    have := q0M (qyZ _) (qyZ _) h1
    unfold cmpI
    rw [if_neg (by omega), if_pos (by omega)]
  · refine ev_f (by simpa using h1) ?_
    by_cases h2 : (digs (val a)).length < (digs (val b)).length
    · refine ev_t (by simpa using h2) (qeW (qaT _) ?_)
      have := q0M (qyZ _) (qyZ _) h2
      unfold cmpI
      rw [if_pos (by omega)]
    · refine ev_f (by simpa using h2) ?_
      rw [qbR (by omega)]
      have := q53 (qeG (val a)) (qeG (val b)) (by omega) (by omega) (n := (digs (val a)).length) (by omega) (by rw [List.drop_of_length_le (by omega), List.drop_of_length_le (by omega)])
      rw [va, vb] at this
      exact this
open Go.Proofs.Try (prog)
inductive ql2 where
 | c0 (x : Int) (y : Int) (carry : Int)
def qh9 : Nat → ql2 → Option (Int × Int)
 | 0, _ => none
 | _ + 1, .c0 x y carry =>
  some ((wU3 (wU6 ((wU6 ((wU6 x) + (wU6 y))) + (wU6 carry)))), (wU3 (qd2 .u64 (wU6 ((wU6 ((wU6 x) + (wU6 y))) + (wU6 carry))) (32 : Int))))
def qhY (K : Nat) (x : Int) (y : Int) (carry : Int) : Option (Int × Int) := qh9 K (.c0 x y carry)
noncomputable def q46 : Code := qbQ prog 150
noncomputable def q7Q : ql2 → List Fr
 | .c0 .. => [.code q46]
def zaR : ql2 → St
 | .c0 x y carry => St.init [(ti .u32 x), (ti .u32 y), (ti .u32 carry)]
def qz4 (cx : Cx) (c : ql2) (r : (Int × Int)) : Prop := Wk prog cx (qc2 prog 150 [[0], [0]] (TV.tup [(false, [(T.int .u32 r.1)]), (false, [(T.int .u32 r.2)])])) (q7Q c) .normal (zaR c)
abbrev qz5 (K : Nat) : Prop := ∀ c r, qh9 K c = some r → ∀ cx : Cx, cx.n = 22 → qz4 cx c r
theorem zaS {K} (_ : qz5 K) {cx} (hn : cx.n = 22) {x y carry} {r} (h : qh9 (K + 1) (.c0 x y carry) = some r) : qz4 cx (.c0 x y carry) r := by
 rw [qh9] at h
 have h := oinj h; subst h
 exact zn4 (fuel := 70) [rg2, rgG [oo, oo, oo, oo, oo, oo, oo, oo, oo], rg3, rg4] _ hn (by kernel_rfl) aN
theorem qxQ : ∀ K : Nat, qz5 K
 | 0, c, r, h => by rw [qh9] at h; cases h
 | K + 1, .c0 .., r, h => fun cx hn => zaS (qxQ K) hn h
theorem qhX {K : Nat} {x : Int} {y : Int} {carry : Int} {r : (Int × Int)} (h : qhY K x y carry = some r) : qc5 prog 150 [(ti .u32 x), (ti .u32 y), (ti .u32 carry)] (TV.tup [(false, [(T.int .u32 r.1)]), (false, [(T.int .u32 r.2)])]) :=
 qa0 [[0], [0]] (by kernel_rfl) (by simp) fun cx hn => qxQ K (.c0 x y carry) r h cx hn
open Go.Proofs.Try (prog)
inductive qlX where
 | c0 (x : Int) (y : Int)
def qh6 : Nat → qlX → Option (Int × Int)
 | 0, _ => none
 | _ + 1, .c0 x y =>
  some ((wU3 (qd2 .u64 (wU6 ((wU6 x) * (wU6 y))) (32 : Int))), (wU3 (wU6 ((wU6 x) * (wU6 y)))))
def qsI (K : Nat) (x : Int) (y : Int) : Option (Int × Int) := qh6 K (.c0 x y)
noncomputable def q42 : Code := qbQ prog 174
noncomputable def q7L : qlX → List Fr
 | .c0 .. => [.code q42]
def q99 : qlX → St
 | .c0 x y => St.init [(ti .u32 x), (ti .u32 y)]
def qzW (cx : Cx) (c : qlX) (r : (Int × Int)) : Prop := Wk prog cx (qc2 prog 174 [[0], [0]] (TV.tup [(false, [(T.int .u32 r.1)]), (false, [(T.int .u32 r.2)])])) (q7L c) .normal (q99 c)
abbrev qzX (K : Nat) : Prop := ∀ c r, qh6 K c = some r → ∀ cx : Cx, cx.n = 17 → qzW cx c r
theorem zaB {K} (_ : qzX K) {cx} (hn : cx.n = 17) {x y} {r} (h : qh6 (K + 1) (.c0 x y) = some r) : qzW cx (.c0 x y) r := by
 rw [qh6] at h
 have h := oinj h; subst h
 exact zn4 (fuel := 62) [rg2, rg6, rgG [oo, oo, oo, oo, oo, oo, oo]] _ hn (by kernel_rfl) aN
theorem qxH : ∀ K : Nat, qzX K
 | 0, c, r, h => by rw [qh6] at h; cases h
 | K + 1, .c0 .., r, h => fun cx hn => zaB (qxH K) hn h
theorem q3X {K : Nat} {x : Int} {y : Int} {r : (Int × Int)} (h : qsI K x y = some r) : qc5 prog 174 [(ti .u32 x), (ti .u32 y)] (TV.tup [(false, [(T.int .u32 r.1)]), (false, [(T.int .u32 r.2)])]) :=
 qa0 [[0], [0]] (by kernel_rfl) (by simp) fun cx hn => qxH K (.c0 x y) r h cx hn
open Go.Proofs.Try (prog)
inductive qrU where
 | c0 (a : (List Int)) (b : (List Int))
 | c1 (r32 : (List Int)) (b : (List Int)) (t33 : (List Int)) (t34 : Int) (t35 : Int)
 | c2 (r32 : (List Int)) (b : (List Int)) (t33 : (List Int)) (t34 : Int) (t35 : Int)
 | c3 (r32 : (List Int)) (b : (List Int)) (i : Int) (x : Int) (carry : Int) (off_row : Nat) (len_row : Nat) (t33 : (List Int)) (t34 : Int) (t35 : Int) (t49 : (List Int)) (t50 : Int) (t51 : Int)
def qbZ : Nat → qrU → Option (List Int)
 | 0, _ => none
 | K + 1, .c0 a b =>
  (qcD K a).bind fun x1 =>
  (qcD K b).bind fun x3 =>
  bif (decide ((x1.length : Int) = (0 : Int))) then
   some []
  else
   bif (decide ((x3.length : Int) = (0 : Int))) then
    some []
   else
    gd (0 ≤ (wI6 ((x1.length : Int) + (x3.length : Int))) ∧ (wI6 ((x1.length : Int) + (x3.length : Int))) ≤ (wI6 ((x1.length : Int) + (x3.length : Int))) ∧ (4 : Int) * (wI6 ((x1.length : Int) + (x3.length : Int))) ≤ 140737488355328) <|
    qbZ K (.c1 (List.replicate (wI6 ((x1.length : Int) + (x3.length : Int))).toNat ((0 : Int) : Int)) x3 x1 (x1.length : Int) (0 : Int))
 | K + 1, .c1 r32 b t33 t34 t35 =>
  bif (decide (t35 < t34)) then
   (gi t33 t35).bind fun x2 =>
   bif (decide (x2 = (0 : Int))) then
    qbZ K (.c2 r32 b t33 t34 t35)
   else
    gd (0 ≤ t35 ∧ 0 ≤ (wI6 (t35 + (b.length : Int))) ∧ t35.toNat ≤ (wI6 (t35 + (b.length : Int))).toNat ∧ (wI6 (t35 + (b.length : Int))).toNat ≤ r32.length ∧ (t35.toNat = 0 ∨ t35.toNat < r32.length)) <|
    qbZ K (.c3 r32 b t35 x2 (0 : Int) (0 + t35.toNat) ((wI6 (t35 + (b.length : Int))).toNat - t35.toNat) t33 t34 t35 b (b.length : Int) (0 : Int))
  else
   (qcD K r32).bind fun x2 =>
   some x2
 | K + 1, .c2 r32 b t33 t34 t35 =>
  qbZ K (.c1 r32 b t33 t34 (wI6 (t35 + (1 : Int))))
 | K + 1, .c3 r32 b i x carry off_row len_row t33 t34 t35 t49 t50 t51 =>
  bif (decide (t51 < t50)) then
   (gi t49 t51).bind fun x2 =>
   (qsI K x x2).bind fun x4 =>
   (gio r32 off_row len_row t51).bind fun x6 =>
   (qhY K x4.2 x6 (0 : Int)).bind fun x8 =>
   (qhY K x8.1 carry (0 : Int)).bind fun x10 =>
   (gio r32 off_row len_row t51).bind fun _ =>
   qbZ K (.c3 (r32.set (off_row + t51.toNat) x10.1) b i x (wU3 ((wU3 (x4.1 + x8.2)) + x10.2)) off_row len_row t33 t34 t35 t49 t50 (wI6 (t51 + (1 : Int))))
  else
   (gi r32 (wI6 (i + (b.length : Int)))).bind fun _ =>
   qbZ K (.c2 (r32.set ((wI6 (i + (b.length : Int))).toNat) carry) b t33 t34 t35)
def q0U (K : Nat) (a : (List Int)) (b : (List Int)) : Option (List Int) := qbZ K (.c0 a b)
noncomputable def qeY : Code := qbQ prog 130
noncomputable def zhD : qrU → List Fr
 | .c0 .. => [.code qeY]
 | .c1 .. => [.code (.loop (atC qeY [1,1,1,1,0,1,0,0])), .blk 0, .code (atC qeY [1,1,1,1,1])]
 | .c2 .. => [.code (atC qeY [1,1,1,1,0,1,0,0,1,1,1]), .lp (atC qeY [1,1,1,1,0,1,0,0]), .blk 0, .code (atC qeY [1,1,1,1,1])]
 | .c3 .. => [.code (.loop (atC qeY [1,1,1,1,0,1,0,0,1,1,0,0,1,1,1,1,0,1,0,0])), .blk 2, .code (atC qeY [1,1,1,1,0,1,0,0,1,1,0,0,1,1,1,1,1]), .blk 1, .code (atC qeY [1,1,1,1,0,1,0,0,1,1,1]), .lp (atC qeY [1,1,1,1,0,1,0,0]), .blk 0, .code (atC qeY [1,1,1,1,1])]
def zkX : qrU → St
 | .c0 a b => St.init [(tl 1 a qaC), (tl 1 b qaC)]
 | .c1 r32 b t33 t34 t35 => ⟨[(1, vl 1 b qaC), (5, .c (C.row 32 0 r32.length)), (33, vl 1 t33 qaC), (34, vi .i64 t34), (35, vi .i64 t35)], [(32, .row 101 1 (r32.map qaC) 0)], []⟩
 | .c2 r32 b t33 t34 t35 => ⟨[(1, vl 1 b qaC), (5, .c (C.row 32 0 r32.length)), (33, vl 1 t33 qaC), (34, vi .i64 t34), (35, vi .i64 t35)], [(32, .row 101 1 (r32.map qaC) 0)], []⟩
 | .c3 r32 b i x carry off_row len_row t33 t34 t35 t49 t50 t51 => ⟨[(1, vl 1 b qaC), (5, .c (C.row 32 0 r32.length)), (6, vi .i64 i), (7, vi .u32 x), (8, vi .u32 carry), (9, .c (C.row 32 off_row len_row)), (33, vl 1 t33 qaC), (34, vi .i64 t34), (35, vi .i64 t35), (49, vl 1 t49 qaC), (50, vi .i64 t50), (51, vi .i64 t51)], [(32, .row 101 1 (r32.map qaC) 0)], []⟩
def qrS (cx : Cx) (c : qrU) (r : (List Int)) : Prop := Wk prog cx (qc2 prog 130 [[1]] (tl 1 r qaC)) (zhD c) .normal (zkX c)
abbrev qrT (K : Nat) : Prop := ∀ c r, qbZ K c = some r → ∀ cx : Cx, cx.n = 98 → qrS cx c r
theorem zk2 {K} (ih : qrT K) {cx} (hn : cx.n = 98) {a b} {r} (h : qbZ (K + 1) (.c0 a b) = some r) : qrS cx (.c0 a b) r := by
 rw [qbZ] at h
 obtain ⟨x1, h2, h⟩ := qaH h
 obtain ⟨x3, h4, h⟩ := qaH h
 rcases qaQ h with ⟨h5, h⟩ | ⟨h5, h⟩
 ·have h := oinj h; subst h
  exact wkR [rg1, rgG [oo, opI (.call [[1]] [(tl 1 a qaC)] (tl 1 x1 qaC)), oo, opI (.call [[1]] [(tl 1 b qaC)] (tl 1 x3 qaC)), oo, oo], rgG [oo, opI (.ln (x1.length : Int)), oo, oo, .sb 22 true, oo, oo, oo, oo], bTr, rg1] hn (aC (qaU h2) <| aC (qaU h4) <| aC (qaX x1 qaC) <| aC h5 <| aC rt <| aN)
 ·rcases qaQ h with ⟨h6, h⟩ | ⟨h6, h⟩
  ·have h := oinj h; subst h
   exact wkR [rg1, rgG [oo, opI (.call [[1]] [(tl 1 a qaC)] (tl 1 x1 qaC)), oo, opI (.call [[1]] [(tl 1 b qaC)] (tl 1 x3 qaC)), oo, oo], rgG [oo, opI (.ln (x1.length : Int)), oo, oo, .sb 22 false, oo, opI (.ln (x3.length : Int)), oo, oo], bTr, rg1] hn (aC (qaU h2) <| aC (qaU h4) <| aC (qaX x1 qaC) <| aC h5 <| aC (qaX x3 qaC) <| aC h6 <| aN)
  ·obtain ⟨h7, h⟩ := qbI h
   exact wkG [rg1, rgG [oo, opI (.call [[1]] [(tl 1 a qaC)] (tl 1 x1 qaC)), oo, opI (.call [[1]] [(tl 1 b qaC)] (tl 1 x3 qaC)), oo, oo], rgG [oo, opI (.ln (x1.length : Int)), oo, oo, .sb 22 false, oo, opI (.ln (x3.length : Int)), oo, oo], bFa, rgG [oo, opI (.ln (x1.length : Int)), oo, opI (.ln (x3.length : Int)), oo, opI (.mk (qaC (0 : Int)) ((List.replicate (wI6 ((x1.length : Int) + (x3.length : Int))).toNat ((0 : Int) : Int)).map qaC)), oo], rgG [oo, opI (.ln (x1.length : Int)), oo], .pre [.rl 5 0 (List.replicate (wI6 ((x1.length : Int) + (x3.length : Int))).toNat ((0 : Int) : Int)).length, .keep [1,5,33,34,35] [32]]] hn (aC (qaU h2) <| aC (qaU h4) <| aC (qaX x1 qaC) <| aC h5 <| aC (qaX x3 qaC) <| aC h6 <| aC (qaX x1 qaC) <| aC (qaX x3 qaC) <| aC h7.1 <| aC h7.2.1 <| aC h7.2.2 <| aC (qgM _ _ _ : List.replicate (wI6 ((x1.length : Int) + (x3.length : Int))).toNat (qaC (0 : Int)) = (List.replicate (wI6 ((x1.length : Int) + (x3.length : Int))).toNat ((0 : Int) : Int)).map qaC) <| aC (qaX x1 qaC) <| aC r0 <| aC (by simp : (wI6 ((x1.length : Int) + (x3.length : Int))).toNat = (List.replicate (wI6 ((x1.length : Int) + (x3.length : Int))).toNat ((0 : Int) : Int)).length) <| aN) (ih _ _ h cx hn)
theorem zk1 {K} (ih : qrT K) {cx} (hn : cx.n = 98) {r32 b t33 t34 t35} {r} (h : qbZ (K + 1) (.c1 r32 b t33 t34 t35) = some r) : qrS cx (.c1 r32 b t33 t34 t35) r := by
 rw [qbZ] at h
 rcases qaQ h with ⟨h1, h⟩ | ⟨h1, h⟩
 ·obtain ⟨x2, h3, h⟩ := qaH h
  rcases qaQ h with ⟨h4, h⟩ | ⟨h4, h⟩
  ·exact wkG [.go, rg1, bTr, rgG [oo, opI (.ix (qaC x2)), oo, oo, oo], rg2, bTr, .pre [.rl 5 0 r32.length, .keep [1,5,33,34,35] [32]]] hn (aC h1 <| aC (qa1 h3) <| aC (qbS qaC h3) <| aC h4 <| aC r0 <| aC (lq r32) <| aN) (ih _ _ h cx hn)
  ·obtain ⟨h5, h⟩ := qbI h
   exact wkG [.go, rg1, bTr, rgG [oo, opI (.ix (qaC x2)), oo, oo, oo], rg2, bFa, rg1, rgG [oo, oo, oo, oo, opI (.ln (b.length : Int)), oo, opI (.slR t35.toNat ((wI6 (t35 + (b.length : Int))).toNat) (0 + t35.toNat) ((wI6 (t35 + (b.length : Int))).toNat - t35.toNat)), oo], rgG [oo, opI (.ln (b.length : Int)), oo], .pre [.rl 5 0 r32.length, .keep [1,5,6,7,8,9,33,34,35,49,50,51] [32]]] hn (aC h1 <| aC (qa1 h3) <| aC (qbS qaC h3) <| aC h4 <| aC (qaX b qaC) <| aC (⟨h5.1, rfl⟩ : 0 ≤ t35 ∧ t35.toNat = t35.toNat) <| aC (⟨h5.2.1, rfl⟩ : 0 ≤ (wI6 (t35 + (b.length : Int))) ∧ (wI6 (t35 + (b.length : Int))).toNat = (wI6 (t35 + (b.length : Int))).toNat) <| aC h5.2.2.1 <| aC h5.2.2.2.1 <| aC h5.2.2.2.2 <| aC (rfl : 0 + t35.toNat = (0 + t35.toNat)) <| aC (rfl : (wI6 (t35 + (b.length : Int))).toNat - t35.toNat = ((wI6 (t35 + (b.length : Int))).toNat - t35.toNat)) <| aC (qaX b qaC) <| aC r0 <| aC (lq r32) <| aN) (ih _ _ h cx hn)
 ·obtain ⟨x2, h3, h⟩ := qaH h
  have h := oinj h; subst h
  exact wkR [.go, rg1, bFa, rgG [oo, .snap 96 (max 0 (0 + r32.length)) (r32.map qaC), opI (.call [[1]] [(tl 1 r32 qaC)] (tl 1 x2 qaC)), oo]] hn (aC h1 <| aC (qbJ _ _ _ (by simp) : ((r32.map qaC).drop 0).take r32.length = r32.map qaC) <| aC (rfl : (max 0 (0 + r32.length)) = (max 0 (0 + r32.length))) <| aC (qaU h3) <| aN)
theorem zk0 {K} (ih : qrT K) {cx} (hn : cx.n = 98) {r32 b t33 t34 t35} {r} (h : qbZ (K + 1) (.c2 r32 b t33 t34 t35) = some r) : qrS cx (.c2 r32 b t33 t34 t35) r := by
 rw [qbZ] at h
 exact wkG [rg2, .pre [.rl 5 0 r32.length, .keep [1,5,33,34,35] [32]]] hn (aC r0 <| aC (lq r32) <| aN) (ih _ _ h cx hn)
theorem zkZ {K} (ih : qrT K) {cx} (hn : cx.n = 98) {r32 b i x carry off_row len_row t33 t34 t35 t49 t50 t51} {r} (h : qbZ (K + 1) (.c3 r32 b i x carry off_row len_row t33 t34 t35 t49 t50 t51) = some r) : qrS cx (.c3 r32 b i x carry off_row len_row t33 t34 t35 t49 t50 t51) r := by
 rw [qbZ] at h
 rcases qaQ h with ⟨h1, h⟩ | ⟨h1, h⟩
 ·obtain ⟨x2, h3, h⟩ := qaH h
  obtain ⟨x4, h5, h⟩ := qaH h
  obtain ⟨x6, h7, h⟩ := qaH h
  obtain ⟨x8, h9, h⟩ := qaH h
  obtain ⟨x10, h11, h⟩ := qaH h
  obtain ⟨x12, h13, h⟩ := qaH h
  exact wkG [.go, rg1, bTr, rgG [oo, opI (.ix (qaC x2)), oo, oo, oo], rgG [oo, oo, opI (.call [[0], [0]] [(ti .u32 x), (ti .u32 x2)] (TV.tup [(false, [(T.int .u32 x4.1)]), (false, [(T.int .u32 x4.2)])])), oo, oo, oo, oo, oo], rgG [oo, oo, oo, .op .ir, opI (.ld (qaC x6)), opI (.call [[0], [0], [0]] [(ti .u32 x4.2), (ti .u32 x6), (TV.c (T.int .u32 (0 : Int)))] (TV.tup [(false, [(T.int .u32 x8.1)]), (false, [(T.int .u32 x8.2)])])), oo, oo, oo, oo, oo], rg4, rgG [oo, oo, opI (.call [[0], [0], [0]] [(ti .u32 x8.1), (ti .u32 carry), (TV.c (T.int .u32 (0 : Int)))] (TV.tup [(false, [(T.int .u32 x10.1)]), (false, [(T.int .u32 x10.2)])])), oo, oo, oo, oo, oo], rgG [oo, oo, oo, oo, oo, oo, .op .ir, opI (.st (qaC x12) ((r32.set (off_row + t51.toNat) x10.1).map qaC)), oo], rg2, .pre [.rl 5 0 (r32.set (off_row + t51.toNat) x10.1).length, .keep [1,5,6,7,8,9,33,34,35,49,50,51] [32]]] hn (aC h1 <| aC (qa1 h3) <| aC (qbS qaC h3) <| aC (q3X h5) <| aC (zv9 h7) <| aC (zwA h7) <| aC (zwB qaC h7) <| aC (qhX h9) <| aC (qhX h11) <| aC (zv9 h13) <| aC (zwA h13) <| aC (zwB qaC h13) <| aC (zuL _ _ x10.1 _ : (r32.map qaC).set (off_row + t51.toNat) (qbW (qaC x12) 0 [(T.int .u32 x10.1)]) = (r32.set (off_row + t51.toNat) x10.1).map qaC) <| aC (Nat.zero_le _ : 0 ≤ (off_row + t51.toNat)) <| aC r0 <| aC (by simp : r32.length = (r32.set (off_row + t51.toNat) x10.1).length) <| aN) (ih _ _ h cx hn)
 ·obtain ⟨x2, h3, h⟩ := qaH h
  exact wkG [.go, rg1, bFa, rgG [oo, oo, oo, opI (.ln (b.length : Int)), oo, oo, .op .ir, opI (.st (qaC x2) ((r32.set ((wI6 (i + (b.length : Int))).toNat) carry).map qaC))], .pre [.rl 5 0 (r32.set ((wI6 (i + (b.length : Int))).toNat) carry).length, .keep [1,5,33,34,35] [32]]] hn (aC h1 <| aC (qaX b qaC) <| aC (qa1 h3) <| aC (qcB h3 (by simp) : (wI6 (i + (b.length : Int))) < ((r32.length : Nat) : Int)) <| aC (qcA qaC h3 : (r32.map qaC)[(0 + (wI6 (i + (b.length : Int))).toNat)]? = some (qaC x2)) <| aC (qc4 _ _ carry _ : (r32.map qaC).set (0 + (wI6 (i + (b.length : Int))).toNat) (qbW (qaC x2) 0 [(T.int .u32 carry)]) = (r32.set ((wI6 (i + (b.length : Int))).toNat) carry).map qaC) <| aC (Nat.zero_le _ : 0 ≤ (0 + (wI6 (i + (b.length : Int))).toNat)) <| aC r0 <| aC (by simp : r32.length = (r32.set ((wI6 (i + (b.length : Int))).toNat) carry).length) <| aN) (ih _ _ h cx hn)
theorem qnZ : ∀ K : Nat, qrT K
 | 0, c, r, h => by rw [qbZ] at h; cases h
 | K + 1, .c0 .., r, h => fun cx hn => zk2 (qnZ K) hn h
 | K + 1, .c1 .., r, h => fun cx hn => zk1 (qnZ K) hn h
 | K + 1, .c2 .., r, h => fun cx hn => zk0 (qnZ K) hn h
 | K + 1, .c3 .., r, h => fun cx hn => zkZ (qnZ K) hn h
theorem zcD {K : Nat} {a : (List Int)} {b : (List Int)} {r : (List Int)} (h : q0U K a b = some r) : qc5 prog 130 [(tl 1 a qaC), (tl 1 b qaC)] (tl 1 r qaC) :=
 qa0 [[1]] (by kernel_rfl) (by simp) fun cx hn => qnZ K (.c0 a b) r h cx hn
theorem qnO {x y c : Int} (hx : 0 ≤ x ∧ x < 4294967296) (hy : 0 ≤ y ∧ y < 4294967296) (hc : 0 ≤ c ∧ c < 4294967296) :
    Ev (fun K => qhY K x y c) ((x + y + c) % 4294967296, (x + y + c) / 4294967296) := by
  refine qaJ ?_
  simp only [qhY, qh9, q2K, qo9, zgB]
  refine qeW (qaT _) ?_
  ext
  · show _ = _; simp only; omega
  · show _ = _; simp only; omega
theorem q64 {x y : Int} (hx : 0 ≤ x ∧ x < 4294967296) (hy : 0 ≤ y ∧ y < 4294967296) : 0 ≤ x * y ∧ x * y ≤ 18446744065119617025 := by
  refine ⟨Int.mul_nonneg hx.1 hy.1, ?_⟩
  have := Int.mul_le_mul (show x ≤ 4294967295 by omega) (show y ≤ 4294967295 by omega) hy.1 (by omega)
  simpa using this
theorem zaA {x y : Int} (hx : 0 ≤ x ∧ x < 4294967296) (hy : 0 ≤ y ∧ y < 4294967296) :
    Ev (fun K => qsI K x y) (x * y / 4294967296, x * y % 4294967296) := by
  refine qaJ ?_
  simp only [qsI, qh6, q2K, qo9, zgB]
  have := q64 hx hy
  refine qeW (qaT _) ?_
  rw [Int.emod_eq_of_lt hx.1 (by omega), Int.emod_eq_of_lt hy.1 (by omega)]
  ext
  · show _ = _; simp only; omega
  · show _ = _; simp only; omega
theorem zuT {x y r c : Int} (hx : 0 ≤ x ∧ x < 4294967296) (hy : 0 ≤ y ∧ y < 4294967296) (hr : 0 ≤ r ∧ r < 4294967296) (hc : 0 ≤ c ∧ c < 4294967296) :
    (x * y % 4294967296 + r + 0) % 4294967296 + c + 0 < 4294967296 * 2 ∧
    ∃ n d : Int, ((x * y % 4294967296 + r + 0) % 4294967296 + c + 0) % 4294967296 = n ∧ ((x * y / 4294967296 + (x * y % 4294967296 + r + 0) / 4294967296) % 4294967296 + ((x * y % 4294967296 + r + 0) % 4294967296 + c + 0) / 4294967296) % 4294967296 = d ∧
    n + 4294967296 * d = x * y + r + c ∧ (0 ≤ n ∧ n < 4294967296) ∧ (0 ≤ d ∧ d < 4294967296) := by
  have := q64 hx hy
  generalize x * y = P at *
  refine ⟨by omega, _, _, rfl, rfl, ?_, by omega, by omega⟩
  omega
theorem q51 {b t33 : List Int} {t34 : Int} {i : Nat} {x : Int} {r : List Int} (hb : Dig b) (hx : 0 ≤ x ∧ x < 4294967296) (R : List Int) (V : Int) (hR : b.length < 2305843009213693952) (hi : i < 2305843009213693952)
    (hend : ∀ (r' : List Int), Dig r' → r'.length = R.length → val r' = V + x * (4294967296 ^ i * val b) → (∀ j, i + b.length < j → r'[j]? = R[j]?) → Ev (fun K => qbZ K (.c2 r' b t33 t34 i)) r) :
    ∀ (m k : Nat) (c : Int) (q : List Int), k + m = b.length → (0 ≤ c ∧ c < 4294967296) → Dig q → q.length = R.length → val q + 4294967296 ^ (i + k) * c = V + x * (4294967296 ^ i * val (b.take k)) → (∀ j, i + k ≤ j → q[j]? = R[j]?) → i + b.length < R.length → R[i + b.length]? = some 0 →
      Ev (fun K => qbZ K (.c3 q b i x c i b.length t33 t34 i b b.length k)) r
  | 0, k, c, q, hk, hc, hq, hl, hv, hu, hlt, hz => by
    refine qaJ ?_
    simp only [qbZ]
    refine ev_f (by simp; omega) ?_
    rw [qbR (by omega), show (i : Int) + (b.length : Int) = ((i + b.length : Nat) : Int) by omega]
    refine qa3 (qbN (by omega)) ?_
    rw [Int.toNat_natCast]
    have hk' : k = b.length := by omega
    subst hk'
    refine hend _ (qpK hq _ hc) (by simpa using hl) ?_ fun j hj => ?_
    · rw [qqQ (by omega)]
      have h0 : q[i + b.length]'(by omega) = 0 := by
        have := hu (i + b.length) (Nat.le_refl _)
        rw [hz, List.getElem?_eq_getElem (by omega)] at this
        exact Option.some.inj this
      rw [h0, Int.sub_zero, hv, List.take_length]
    · rw [List.getElem?_set_ne (by omega)]
      exact hu j (by omega)
  | m + 1, k, c, q, hk, hc, hq, hl, hv, hu, hlt, hz => by
    refine qaJ ?_
    simp only [qbZ]
    refine ev_t (by simp; omega) ?_
    have hkb : k < b.length := by omega
    have hik : i + k < q.length := by omega
    have hy := qe0 hb hkb
    have hr := qe0 hq hik
    refine qa3 (qbN hkb) (qaG (zaA hx hy) (qa3 (ztB hkb (List.getElem?_eq_getElem hik)) ?_))
    refine qaG (qnO ⟨by simp only; omega, by simp only; omega⟩ hr (by decide)) ?_
    refine qaG (qnO ⟨by simp only; omega, by simp only; omega⟩ hc (by decide)) ?_
    refine qa3 (ztB hkb (List.getElem?_eq_getElem hik)) ?_
    simp only [q2K]
    obtain ⟨_, n, d, e1, e2, e3, hn, hd⟩ := zuT hx hy hr hc
    rw [e1, e2, qbR (by omega), show (k : Int) + 1 = ((k + 1 : Nat) : Int) by omega, Int.toNat_natCast]
    refine q51 hb hx R V hR hi hend m (k + 1) d _ (by omega) hd (qpK hq _ hn) (by simpa using hl) ?_ (fun j hj => ?_) hlt hz
    · rw [qqQ hik, List.take_add_one, List.getElem?_eq_getElem hkb]
      simp only [Option.toList_some]
      rw [qkQ, List.length_take, Nat.min_eq_left (by omega), ← Nat.add_assoc, Int.pow_succ]
      simp only [qpV, q6X, Int.mul_zero, Int.add_zero]
      rw [Int.pow_add] at *
      generalize (4294967296 : Int) ^ i = A at *
      generalize (4294967296 : Int) ^ k = C at *
      grind
    · rw [List.getElem?_set_ne (by omega)]
      exact hu j (by omega)
theorem q52 {a b : List Int} (ha : Dig a) (hb : Dig b) (hR : a.length + b.length < 2305843009213693952) (L : Nat) (hL : L = a.length + b.length) :
    ∀ (m i : Nat) (q : List Int), i + m = a.length → Dig q → q.length = L → val q = val (a.take i) * val b → (∀ j, i + b.length ≤ j → j < L → q[j]? = some 0) →
      Ev (fun K => qbZ K (.c1 q b a a.length i)) (digs (val a * val b))
  | 0, i, q, hi, hq, hl, hv, hz => by
    refine qaJ ?_
    simp only [qbZ]
    refine ev_f (by simp; omega) ?_
    have := qb2 hq (by omega)
    rw [hv, List.take_of_length_le (by omega)] at this
    exact qaG this (qaT _)
  | m + 1, i, q, hi, hq, hl, hv, hz => by
    refine qaJ ?_
    simp only [qbZ]
    have hia : i < a.length := by omega
    refine ev_t (by simp; omega) (qa3 (qbN hia) ?_)
    have hx := qe0 ha hia
    have e : val (a.take (i + 1)) = val (a.take i) + 4294967296 ^ i * a[i] := by
      rw [List.take_add_one, List.getElem?_eq_getElem hia, Option.toList_some, qkQ, List.length_take, Nat.min_eq_left (by omega)]
      simp
    have next : ∀ r' : List Int, Dig r' → r'.length = L → val r' = val (a.take (i + 1)) * val b → (∀ j, i + b.length < j → r'[j]? = q[j]?) → Ev (fun K => qbZ K (.c2 r' b a a.length i)) (digs (val a * val b)) := by
      intro r' h1 h2 h3 h4
      refine qaJ ?_
      simp only [qbZ]
      rw [qbR (by omega), show (i : Int) + 1 = ((i + 1 : Nat) : Int) by omega]
      exact q52 ha hb hR L hL m (i + 1) r' (by omega) h1 h2 h3 fun j hj hjl => by rw [h4 j (by omega)]; exact hz j (by omega) hjl
    by_cases h0 : a[i] = 0
    · refine ev_t (by simpa using h0) (next q hq hl ?_ fun _ _ => rfl)
      rw [hv, e, h0]; simp
    · refine ev_f (by simpa using h0) (qeZ ?_ ?_)
      · rw [qbR (by omega)]; omega
      · have e1 : 0 + (i : Int).toNat = i := by omega
        have e2 : (wI6 ((i : Int) + (b.length : Int))).toNat - (i : Int).toNat = b.length := by rw [qbR (by omega)]; omega
        rw [e1, e2]
        refine q51 (i := i) hb hx q (val q) (by omega) (by omega) ?_ b.length 0 0 q (by omega) (by decide) hq rfl (by simp) (fun j _ => rfl) (by omega) (hz _ (by omega) (by omega))
        intro r' h1 h2 h3 h4
        refine next r' h1 (by omega) ?_ h4
        rw [h3, hv, e]
        grind
theorem zkY {a b : List Int} (ha : Dig a) (hb : Dig b) (hs : a.length + b.length ≤ 34359738368) : Ev (fun K => q0U K a b) (digs (val a * val b)) := by
  refine qaJ ?_
  simp only [q0U, qbZ]
  have va := qf1 (qbE ha)
  have vb := qf1 (qbE hb)
  have la := qeX ha
  have lb := qeX hb
  refine qaG (qb2 ha (by omega)) (qaG (qb2 hb (by omega)) ?_)
  by_cases h1 : digs (val a) = []
  · refine ev_t (by simp [h1]) (qeW (qaT _) ?_)
    rw [(qlJ (qbE ha)).1 h1, Int.zero_mul, qgT]
  · refine ev_f (by simpa using h1) ?_
    by_cases h2 : digs (val b) = []
    · refine ev_t (by simp [h2]) (qeW (qaT _) ?_)
      rw [(qlJ (qbE hb)).1 h2, Int.mul_zero, qgT]
    · refine ev_f (by simpa using h2) ?_
      rw [qbR (by omega)]
      refine qeZ (by omega) ?_
      have := q52 (qeG (val a)) (qeG (val b)) (by omega) _ rfl (digs (val a)).length 0 (List.replicate ((digs (val a)).length + (digs (val b)).length) 0) (by omega) (q8C (by decide)) (by simp) (by rw [q0L]; simp) (fun j _ hj => by rw [List.getElem?_replicate, if_pos hj])
      rw [va, vb] at this
      rw [show (((digs (val a)).length : Int) + ((digs (val b)).length : Int)).toNat = (digs (val a)).length + (digs (val b)).length by omega]
      exact this
open Go.Proofs.Try (prog)
inductive qqC where
 | c0 (neg : Bool) (abs : (List Int))
def qk4 : Nat → qqC → Option qaB
 | 0, _ => none
 | _ + 1, .c0 neg abs =>
  bif neg then
   some (qaB.mk (decide ((0 : Int) < (abs.length : Int))) abs)
  else
   some (qaB.mk false abs)
def qh1 (K : Nat) (neg : Bool) (abs : (List Int)) : Option qaB := qk4 K (.c0 neg abs)
noncomputable def zc7 : Code := qbQ prog 105
noncomputable def ze9 : qqC → List Fr
 | .c0 .. => [.code zc7]
def zh7 : qqC → St
 | .c0 neg abs => St.init [(TV.c (T.bool neg)), (tl 1 abs qaC)]
def q6I (cx : Cx) (c : qqC) (r : qaB) : Prop := Wk prog cx (qc2 prog 105 [[0,1]] (TV.agg (qaA r))) (ze9 c) .normal (zh7 c)
abbrev q6J (K : Nat) : Prop := ∀ c r, qk4 K c = some r → ∀ cx : Cx, cx.n = 13 → q6I cx c r
theorem zh8 {K} (_ : q6J K) {cx} (hn : cx.n = 13) {neg abs} {r} (h : qk4 (K + 1) (.c0 neg abs) = some r) : q6I cx (.c0 neg abs) r := by
 rw [qk4] at h
 rcases qaQ h with ⟨h1, h⟩ | ⟨h1, h⟩
 ·have h := oinj h; subst h
  exact wkR [rg1, rgG [oo, oo, .sb 6 true, oo, opI (.ln (abs.length : Int)), oo, oo, oo, oo, oo]] hn (aC h1 <| aC (qaX abs qaC) <| aN)
 ·have h := oinj h; subst h
  exact wkR [rg1, rgG [oo, oo, .sb 6 false, oo, oo, oo, oo, oo, oo, oo]] hn (aC h1 <| aN)
theorem q17 : ∀ K : Nat, q6J K
 | 0, c, r, h => by rw [qk4] at h; cases h
 | K + 1, .c0 .., r, h => fun cx hn => zh8 (q17 K) hn h
theorem qf3 {K : Nat} {neg : Bool} {abs : (List Int)} {r : qaB} (h : qh1 K neg abs = some r) : qc5 prog 105 [(TV.c (T.bool neg)), (tl 1 abs qaC)] (TV.agg (qaA r)) :=
 qa0 [[0,1]] (by kernel_rfl) (by simp) fun cx hn => q17 K (.c0 neg abs) r h cx hn
open Go.Proofs.Try (prog)
inductive qqF where
 | c0 (neg : Bool) (a : (List Int))
def qk7 : Nat → qqF → Option qaB
 | 0, _ => none
 | K + 1, .c0 neg a =>
  (qiT K a).bind fun x1 =>
  (qh1 K neg x1).bind fun x3 =>
  some x3
def qlI (K : Nat) (neg : Bool) (a : (List Int)) : Option qaB := qk7 K (.c0 neg a)
noncomputable def zdE : Code := qbQ prog 104
noncomputable def zfG : qqF → List Fr
 | .c0 .. => [.code zdE]
def ziJ : qqF → St
 | .c0 neg a => St.init [(TV.c (T.bool neg)), (tl 1 a qaC)]
def q6P (cx : Cx) (c : qqF) (r : qaB) : Prop := Wk prog cx (qc2 prog 104 [[0,1]] (TV.agg (qaA r))) (zfG c) .normal (ziJ c)
abbrev q6Q (K : Nat) : Prop := ∀ c r, qk7 K c = some r → ∀ cx : Cx, cx.n = 9 → q6P cx c r
theorem ziK {K} (_ : q6Q K) {cx} (hn : cx.n = 9) {neg a} {r} (h : qk7 (K + 1) (.c0 neg a) = some r) : q6P cx (.c0 neg a) r := by
 rw [qk7] at h
 obtain ⟨x1, h2, h⟩ := qaH h
 obtain ⟨x3, h4, h⟩ := qaH h
 have h := oinj h; subst h
 exact wkR [rg1, rgG [oo, oo, opI (.call [[1]] [(tl 1 a qaC)] (tl 1 x1 qaC)), opI (.call [[0], [1]] [(TV.c (T.bool neg)), (tl 1 x1 qaC)] (TV.agg (qaA x3))), oo]] hn (aC (qfB h2) <| aC (qf3 h4) <| aN)
theorem q2C : ∀ K : Nat, q6Q K
 | 0, c, r, h => by rw [qk7] at h; cases h
 | K + 1, .c0 .., r, h => fun cx hn => ziK (q2C K) hn h
theorem qj5 {K : Nat} {neg : Bool} {a : (List Int)} {r : qaB} (h : qlI K neg a = some r) : qc5 prog 104 [(TV.c (T.bool neg)), (tl 1 a qaC)] (TV.agg (qaA r)) :=
 qa0 [[0,1]] (by kernel_rfl) (by simp) fun cx hn => q2C K (.c0 neg a) r h cx hn
open Go.Proofs.Try (prog)
inductive quM where
 | c0 (n : Int)
def qoX : Nat → quM → Option qaB
 | 0, _ => none
 | K + 1, .c0 n =>
  bif (decide (n < (0 : Int))) then
   (qwL K (wU6 (0 - (wU6 n)))).bind fun x2 =>
   (qh1 K true x2).bind fun x4 =>
   some x4
  else
   (qwL K (wU6 n)).bind fun x2 =>
   (qh1 K false x2).bind fun x4 =>
   some x4
def qiA (K : Nat) (n : Int) : Option qaB := qoX K (.c0 n)
noncomputable def ziG : Code := qbQ prog 71
noncomputable def zl4 : quM → List Fr
 | .c0 .. => [.code ziG]
def znN : quM → St
 | .c0 n => St.init [(ti .i64 n)]
def zeA (cx : Cx) (c : quM) (r : qaB) : Prop := Wk prog cx (qc2 prog 71 [[0,1]] (TV.agg (qaA r))) (zl4 c) .normal (znN c)
abbrev zeB (K : Nat) : Prop := ∀ c r, qoX K c = some r → ∀ cx : Cx, cx.n = 14 → zeA cx c r
theorem znO {K} (_ : zeB K) {cx} (hn : cx.n = 14) {n} {r} (h : qoX (K + 1) (.c0 n) = some r) : zeA cx (.c0 n) r := by
 rw [qoX] at h
 rcases qaQ h with ⟨h1, h⟩ | ⟨h1, h⟩
 ·obtain ⟨x2, h3, h⟩ := qaH h
  obtain ⟨x4, h5, h⟩ := qaH h
  have h := oinj h; subst h
  exact wkR [rg1, rg2, bTr, rgG [oo, oo, oo, opI (.call [[0]] [(TV.c (T.int .u64 (wU6 (0 - (wU6 n)))))] (tl 1 x2 qaC)), opI (.call [[0], [1]] [(TV.c (T.bool true)), (tl 1 x2 qaC)] (TV.agg (qaA x4))), oo]] hn (aC h1 <| aC (qvK h3) <| aC (qf3 h5) <| aN)
 ·obtain ⟨x2, h3, h⟩ := qaH h
  obtain ⟨x4, h5, h⟩ := qaH h
  have h := oinj h; subst h
  exact wkR [rg1, rg2, bFa, rgG [oo, oo, opI (.call [[0]] [(TV.c (T.int .u64 (wU6 n)))] (tl 1 x2 qaC)), opI (.call [[0], [1]] [(TV.c (T.bool false)), (tl 1 x2 qaC)] (TV.agg (qaA x4))), oo]] hn (aC h1 <| aC (qvK h3) <| aC (qf3 h5) <| aN)
theorem q6O : ∀ K : Nat, zeB K
 | 0, c, r, h => by rw [qoX] at h; cases h
 | K + 1, .c0 .., r, h => fun cx hn => znO (q6O K) hn h
theorem qd8 {K : Nat} {n : Int} {r : qaB} (h : qiA K n = some r) : qc5 prog 71 [(ti .i64 n)] (TV.agg (qaA r)) :=
 qa0 [[0,1]] (by kernel_rfl) (by simp) fun cx hn => q6O K (.c0 n) r h cx hn
open Go.Proofs.Try (prog)
inductive qqD where
 | c0 (a : qaB)
def qk5 : Nat → qqD → Option Int
 | 0, _ => none
 | K + 1, .c0 a =>
  (qmK K a.Abs).bind fun x1 =>
  bif x1 then
   some (0 : Int)
  else
   bif a.Neg then
    some (-1 : Int)
   else
    some (1 : Int)
def qj4 (K : Nat) (a : qaB) : Option Int := qk5 K (.c0 a)
noncomputable def zc8 : Code := qbQ prog 47
noncomputable def zfB : qqD → List Fr
 | .c0 .. => [.code zc8]
def ziA : qqD → St
 | .c0 a => St.init [(TV.agg (qaA a))]
def q6K (cx : Cx) (c : qqD) (r : Int) : Prop := Wk prog cx (qc2 prog 47 [[0]] (ti .i64 r)) (zfB c) .normal (ziA c)
abbrev q6L (K : Nat) : Prop := ∀ c r, qk5 K c = some r → ∀ cx : Cx, cx.n = 10 → q6K cx c r
theorem ziB {K} (_ : q6L K) {cx} (hn : cx.n = 10) {a} {r} (h : qk5 (K + 1) (.c0 a) = some r) : q6K cx (.c0 a) r := by
 rw [qk5] at h
 obtain ⟨x1, h2, h⟩ := qaH h
 rcases qaQ h with ⟨h3, h⟩ | ⟨h3, h⟩
 ·have h := oinj h; subst h
  exact wkR [rg2, rgG [oo, oo, opI (.call [[1]] [(TV.c (T.sl 1 (a.Abs.map qaC)))] (TV.c (T.bool x1))), oo], bTr, rg1] hn (aC (qgX h2) <| aC h3 <| aN)
 ·rcases qaQ h with ⟨h4, h⟩ | ⟨h4, h⟩
  ·have h := oinj h; subst h
   exact wkR [rg2, rgG [oo, oo, opI (.call [[1]] [(TV.c (T.sl 1 (a.Abs.map qaC)))] (TV.c (T.bool x1))), oo], bFa, rg3, bTr, rg1] hn (aC (qgX h2) <| aC h3 <| aC h4 <| aN)
  ·have h := oinj h; subst h
   exact wkR [rg2, rgG [oo, oo, opI (.call [[1]] [(TV.c (T.sl 1 (a.Abs.map qaC)))] (TV.c (T.bool x1))), oo], bFa, rg3, bFa, rg1] hn (aC (qgX h2) <| aC h3 <| aC h4 <| aN)
theorem q18 : ∀ K : Nat, q6L K
 | 0, c, r, h => by rw [qk5] at h; cases h
 | K + 1, .c0 .., r, h => fun cx hn => ziB (q18 K) hn h
theorem qbH {K : Nat} {a : qaB} {r : Int} (h : qj4 K a = some r) : qc5 prog 47 [(TV.agg (qaA a))] (ti .i64 r) :=
 qa0 [[0]] (by kernel_rfl) (by simp) fun cx hn => q18 K (.c0 a) r h cx hn
open Go.Proofs.Try (prog)
inductive qsP where
 | c0 (a : qaB) (b : qaB)
def qmW : Nat → qsP → Option Int
 | 0, _ => none
 | K + 1, .c0 a b =>
  (qj4 K a).bind fun x1 =>
  (qj4 K b).bind fun x3 =>
  bif (decide (x3 < x1)) then
   some (1 : Int)
  else
   bif (decide (x1 < x3)) then
    some (-1 : Int)
   else
    bif (decide (x1 < (0 : Int))) then
     (qn1 K b.Abs a.Abs).bind fun x8 =>
     some x8
    else
     (qn1 K a.Abs b.Abs).bind fun x8 =>
     some x8
def qg9 (K : Nat) (a : qaB) (b : qaB) : Option Int := qmW K (.c0 a b)
noncomputable def zfH : Code := qbQ prog 55
noncomputable def ziL : qsP → List Fr
 | .c0 .. => [.code zfH]
def zmA : qsP → St
 | .c0 a b => St.init [(TV.agg (qaA a)), (TV.agg (qaA b))]
def za2 (cx : Cx) (c : qsP) (r : Int) : Prop := Wk prog cx (qc2 prog 55 [[0]] (ti .i64 r)) (ziL c) .normal (zmA c)
abbrev za3 (K : Nat) : Prop := ∀ c r, qmW K c = some r → ∀ cx : Cx, cx.n = 32 → za2 cx c r
theorem zmB {K} (_ : za3 K) {cx} (hn : cx.n = 32) {a b} {r} (h : qmW (K + 1) (.c0 a b) = some r) : za2 cx (.c0 a b) r := by
 rw [qmW] at h
 obtain ⟨x1, h2, h⟩ := qaH h
 obtain ⟨x3, h4, h⟩ := qaH h
 rcases qaQ h with ⟨h5, h⟩ | ⟨h5, h⟩
 ·have h := oinj h; subst h
  exact wkR [rg3, .draw [.p, (.call [[0,1]] [(TV.agg (qaA a))] (ti .i64 x1)), .p] [opI (.call [[0,1]] [(TV.agg (qaA b))] (ti .i64 x3)), .op .p, .op .p], rg4, bTr, rg1] hn (aC (qbH h2) <| aC (qbH h4) <| aC h5 <| aN)
 ·rcases qaQ h with ⟨h6, h⟩ | ⟨h6, h⟩
  ·have h := oinj h; subst h
   exact wkR [rg3, .draw [.p, (.call [[0,1]] [(TV.agg (qaA a))] (ti .i64 x1)), .p] [opI (.call [[0,1]] [(TV.agg (qaA b))] (ti .i64 x3)), .op .p, .op .p], rg4, bFa, rg4, bTr, rg1] hn (aC (qbH h2) <| aC (qbH h4) <| aC h5 <| aC h6 <| aN)
  ·rcases qaQ h with ⟨h7, h⟩ | ⟨h7, h⟩
   ·obtain ⟨x8, h9, h⟩ := qaH h
    have h := oinj h; subst h
    exact wkR [rg3, .draw [.p, (.call [[0,1]] [(TV.agg (qaA a))] (ti .i64 x1)), .p] [opI (.call [[0,1]] [(TV.agg (qaA b))] (ti .i64 x3)), .op .p, .op .p], rg4, bFa, rg4, bFa, rg3, bTr, rgG [oo, oo, oo, oo, opI (.call [[1], [1]] [(TV.c (T.sl 1 (b.Abs.map qaC))), (TV.c (T.sl 1 (a.Abs.map qaC)))] (ti .i64 x8)), oo]] hn (aC (qbH h2) <| aC (qbH h4) <| aC h5 <| aC h6 <| aC h7 <| aC (qe4 h9) <| aN)
   ·obtain ⟨x8, h9, h⟩ := qaH h
    have h := oinj h; subst h
    exact wkR [rg3, .draw [.p, (.call [[0,1]] [(TV.agg (qaA a))] (ti .i64 x1)), .p] [opI (.call [[0,1]] [(TV.agg (qaA b))] (ti .i64 x3)), .op .p, .op .p], rg4, bFa, rg4, bFa, rg3, bFa, rgG [oo, oo, oo, oo, opI (.call [[1], [1]] [(TV.c (T.sl 1 (a.Abs.map qaC))), (TV.c (T.sl 1 (b.Abs.map qaC)))] (ti .i64 x8)), oo]] hn (aC (qbH h2) <| aC (qbH h4) <| aC h5 <| aC h6 <| aC h7 <| aC (qe4 h9) <| aN)
theorem q37 : ∀ K : Nat, za3 K
 | 0, c, r, h => by rw [qmW] at h; cases h
 | K + 1, .c0 .., r, h => fun cx hn => zmB (q37 K) hn h
theorem qdA {K : Nat} {a : qaB} {b : qaB} {r : Int} (h : qg9 K a b = some r) : qc5 prog 55 [(TV.agg (qaA a)), (TV.agg (qaA b))] (ti .i64 r) :=
 qa0 [[0]] (by kernel_rfl) (by simp) fun cx hn => q37 K (.c0 a b) r h cx hn
open Go.Proofs.Try (prog)
inductive qsO where
 | c0 (a : qaB) (b : qaB)
def qmV : Nat → qsO → Option qaB
 | 0, _ => none
 | K + 1, .c0 a b =>
  (q0U K a.Abs b.Abs).bind fun x1 =>
  (qh1 K (!(a.Neg == b.Neg)) x1).bind fun x3 =>
  some x3
def qf0 (K : Nat) (a : qaB) (b : qaB) : Option qaB := qmV K (.c0 a b)
noncomputable def zfF : Code := qbQ prog 74
noncomputable def ziI : qsO → List Fr
 | .c0 .. => [.code zfF]
def zl8 : qsO → St
 | .c0 a b => St.init [(TV.agg (qaA a)), (TV.agg (qaA b))]
def za0 (cx : Cx) (c : qsO) (r : qaB) : Prop := Wk prog cx (qc2 prog 74 [[0,1]] (TV.agg (qaA r))) (ziI c) .normal (zl8 c)
abbrev za1 (K : Nat) : Prop := ∀ c r, qmV K c = some r → ∀ cx : Cx, cx.n = 16 → za0 cx c r
theorem zl9 {K} (_ : za1 K) {cx} (hn : cx.n = 16) {a b} {r} (h : qmV (K + 1) (.c0 a b) = some r) : za0 cx (.c0 a b) r := by
 rw [qmV] at h
 obtain ⟨x1, h2, h⟩ := qaH h
 obtain ⟨x3, h4, h⟩ := qaH h
 have h := oinj h; subst h
 exact wkR [rg3, .draw [.p, .p, .p, .p, .p, .p, .p, .p, .p, (.call [[1], [1]] [(TV.c (T.sl 1 (a.Abs.map qaC))), (TV.c (T.sl 1 (b.Abs.map qaC)))] (tl 1 x1 qaC))] [opI (.call [[0], [1]] [(TV.c (T.bool (!(a.Neg == b.Neg)))), (tl 1 x1 qaC)] (TV.agg (qaA x3))), .op .p]] hn (aC (zcD h2) <| aC (qf3 h4) <| aN)
theorem q36 : ∀ K : Nat, za1 K
 | 0, c, r, h => by rw [qmV] at h; cases h
 | K + 1, .c0 .., r, h => fun cx hn => zl9 (q36 K) hn h
theorem qd9 {K : Nat} {a : qaB} {b : qaB} {r : qaB} (h : qf0 K a b = some r) : qc5 prog 74 [(TV.agg (qaA a)), (TV.agg (qaA b))] (TV.agg (qaA r)) :=
 qa0 [[0,1]] (by kernel_rfl) (by simp) fun cx hn => q36 K (.c0 a b) r h cx hn
open Go.Proofs.Try (prog)
inductive qsR where
 | c0 (a : qaB)
def qmY : Nat → qsR → Option qaB
 | 0, _ => none
 | K + 1, .c0 a =>
  (qlI K false a.Abs).bind fun x1 =>
  some x1
def qhA (K : Nat) (a : qaB) : Option qaB := qmY K (.c0 a)
noncomputable def zfJ : Code := qbQ prog 53
noncomputable def ziN : qsR → List Fr
 | .c0 .. => [.code zfJ]
def zmE : qsR → St
 | .c0 a => St.init [(TV.agg (qaA a))]
def za6 (cx : Cx) (c : qsR) (r : qaB) : Prop := Wk prog cx (qc2 prog 53 [[0,1]] (TV.agg (qaA r))) (ziN c) .normal (zmE c)
abbrev za7 (K : Nat) : Prop := ∀ c r, qmY K c = some r → ∀ cx : Cx, cx.n = 6 → za6 cx c r
theorem zmF {K} (_ : za7 K) {cx} (hn : cx.n = 6) {a} {r} (h : qmY (K + 1) (.c0 a) = some r) : za6 cx (.c0 a) r := by
 rw [qmY] at h
 obtain ⟨x1, h2, h⟩ := qaH h
 have h := oinj h; subst h
 exact wkR [rg2, rgG [oo, oo, opI (.call [[0], [1]] [(TV.c (T.bool false)), (TV.c (T.sl 1 (a.Abs.map qaC)))] (TV.agg (qaA x1))), oo]] hn (aC (qj5 h2) <| aN)
theorem q39 : ∀ K : Nat, za7 K
 | 0, c, r, h => by rw [qmY] at h; cases h
 | K + 1, .c0 .., r, h => fun cx hn => zmF (q39 K) hn h
theorem qdW {K : Nat} {a : qaB} {r : qaB} (h : qhA K a = some r) : qc5 prog 53 [(TV.agg (qaA a))] (TV.agg (qaA r)) :=
 qa0 [[0,1]] (by kernel_rfl) (by simp) fun cx hn => q39 K (.c0 a) r h cx hn
open Go.Proofs.Try (prog)
open Go.Proofs.Try (prog)
inductive qsN where
 | c0 (a : qaB)
def qmU : Nat → qsN → Option qaB
 | 0, _ => none
 | K + 1, .c0 a =>
  (qlI K (!a.Neg) a.Abs).bind fun x1 =>
  some x1
def q06 (K : Nat) (a : qaB) : Option qaB := qmU K (.c0 a)
noncomputable def zfE : Code := qbQ prog 127
noncomputable def ziH : qsN → List Fr
 | .c0 .. => [.code zfE]
def zl5 : qsN → St
 | .c0 a => St.init [(TV.agg (qaA a))]
def zaY (cx : Cx) (c : qsN) (r : qaB) : Prop := Wk prog cx (qc2 prog 127 [[0,1]] (TV.agg (qaA r))) (ziH c) .normal (zl5 c)
abbrev zaZ (K : Nat) : Prop := ∀ c r, qmU K c = some r → ∀ cx : Cx, cx.n = 9 → zaY cx c r
theorem zl7 {K} (_ : zaZ K) {cx} (hn : cx.n = 9) {a} {r} (h : qmU (K + 1) (.c0 a) = some r) : zaY cx (.c0 a) r := by
 rw [qmU] at h
 obtain ⟨x1, h2, h⟩ := qaH h
 have h := oinj h; subst h
 exact wkR [rg2, rgG [oo, oo, oo, oo, oo, opI (.call [[0], [1]] [(TV.c (T.bool (!a.Neg))), (TV.c (T.sl 1 (a.Abs.map qaC)))] (TV.agg (qaA x1))), oo]] hn (aC (qj5 h2) <| aN)
theorem q35 : ∀ K : Nat, zaZ K
 | 0, c, r, h => by rw [qmU] at h; cases h
 | K + 1, .c0 .., r, h => fun cx hn => zl7 (q35 K) hn h
theorem zdD {K : Nat} {a : qaB} {r : qaB} (h : q06 K a = some r) : qc5 prog 127 [(TV.agg (qaA a))] (TV.agg (qaA r)) :=
 qa0 [[0,1]] (by kernel_rfl) (by simp) fun cx hn => q35 K (.c0 a) r h cx hn
open Go.Proofs.Try (prog)
inductive qnP where
 | c0 (a : qaB)
def qi5 : Nat → qnP → Option qaB
 | 0, _ => none
 | K + 1, .c0 a =>
  (qlI K a.Neg a.Abs).bind fun x1 =>
  some x1
def qj9 (K : Nat) (a : qaB) : Option qaB := qi5 K (.c0 a)
noncomputable def q7R : Code := qbQ prog 87
noncomputable def zaX : qnP → List Fr
 | .c0 .. => [.code q7R]
def zdB : qnP → St
 | .c0 a => St.init [(TV.agg (qaA a))]
def q2A (cx : Cx) (c : qnP) (r : qaB) : Prop := Wk prog cx (qc2 prog 87 [[0,1]] (TV.agg (qaA r))) (zaX c) .normal (zdB c)
abbrev q2B (K : Nat) : Prop := ∀ c r, qi5 K c = some r → ∀ cx : Cx, cx.n = 8 → q2A cx c r
theorem zdC {K} (_ : q2B K) {cx} (hn : cx.n = 8) {a} {r} (h : qi5 (K + 1) (.c0 a) = some r) : q2A cx (.c0 a) r := by
 rw [qi5] at h
 obtain ⟨x1, h2, h⟩ := qaH h
 have h := oinj h; subst h
 exact wkR [rg2, rgG [oo, oo, oo, oo, opI (.call [[0], [1]] [(TV.c (T.bool a.Neg)), (TV.c (T.sl 1 (a.Abs.map qaC)))] (TV.agg (qaA x1))), oo]] hn (aC (qj5 h2) <| aN)
theorem qyO : ∀ K : Nat, q2B K
 | 0, c, r, h => by rw [qi5] at h; cases h
 | K + 1, .c0 .., r, h => fun cx hn => zdC (qyO K) hn h
theorem qkL {K : Nat} {a : qaB} {r : qaB} (h : qj9 K a = some r) : qc5 prog 87 [(TV.agg (qaA a))] (TV.agg (qaA r)) :=
 qa0 [[0,1]] (by kernel_rfl) (by simp) fun cx hn => qyO K (.c0 a) r h cx hn
open Go.Proofs.Try (prog)
inductive qo0 where
 | c0 (a : qaB)
def qjW : Nat → qo0 → Option Bool
 | 0, _ => none
 | K + 1, .c0 a =>
  (qmK K a.Abs).bind fun x1 =>
  some x1
def qgS (K : Nat) (a : qaB) : Option Bool := qjW K (.c0 a)
noncomputable def zbE : Code := qbQ prog 146
noncomputable def zdL : qo0 → List Fr
 | .c0 .. => [.code zbE]
def zfP : qo0 → St
 | .c0 a => St.init [(TV.agg (qaA a))]
def q4C (cx : Cx) (c : qo0) (r : Bool) : Prop := Wk prog cx (qc2 prog 146 [[0]] (TV.c (T.bool r))) (zdL c) .normal (zfP c)
abbrev q4D (K : Nat) : Prop := ∀ c r, qjW K c = some r → ∀ cx : Cx, cx.n = 6 → q4C cx c r
theorem zfQ {K} (_ : q4D K) {cx} (hn : cx.n = 6) {a} {r} (h : qjW (K + 1) (.c0 a) = some r) : q4C cx (.c0 a) r := by
 rw [qjW] at h
 obtain ⟨x1, h2, h⟩ := qaH h
 have h := oinj h; subst h
 exact wkR [rg2, rgG [oo, oo, opI (.call [[1]] [(TV.c (T.sl 1 (a.Abs.map qaC)))] (TV.c (T.bool x1))), oo]] hn (aC (qgX h2) <| aN)
theorem qz7 : ∀ K : Nat, q4D K
 | 0, c, r, h => by rw [qjW] at h; cases h
 | K + 1, .c0 .., r, h => fun cx hn => zfQ (qz7 K) hn h
theorem qcC {K : Nat} {a : qaB} {r : Bool} (h : qgS K a = some r) : qc5 prog 146 [(TV.agg (qaA a))] (TV.c (T.bool r)) :=
 qa0 [[0]] (by kernel_rfl) (by simp) fun cx hn => qz7 K (.c0 a) r h cx hn
open Go.Proofs.Try (prog)
inductive qj6 where
 | c0 
def qgZ : Nat → qj6 → Option qaB
 | 0, _ => none
 | K + 1, .c0  =>
  (qiA K (1 : Int)).bind fun x1 =>
  some x1
def qi8 (K : Nat) : Option qaB := qgZ K .c0
noncomputable def q2V : Code := qbQ prog 109
noncomputable def q4H : qj6 → List Fr
 | .c0  => [.code q2V]
def q5B : qj6 → St
 | .c0  => St.init []
def qx0 (cx : Cx) (c : qj6) (r : qaB) : Prop := Wk prog cx (qc2 prog 109 [[0,1]] (TV.agg (qaA r))) (q4H c) .normal (q5B c)
abbrev qx1 (K : Nat) : Prop := ∀ c r, qgZ K c = some r → ∀ cx : Cx, cx.n = 2 → qx0 cx c r
theorem q5C {K} (_ : qx1 K) {cx} (hn : cx.n = 2)  {r} (h : qgZ (K + 1) .c0 = some r) : qx0 cx .c0 r := by
 rw [qgZ] at h
 obtain ⟨x1, h2, h⟩ := qaH h
 have h := oinj h; subst h
 exact wkR [rg1, rgG [opI (.call [[0]] [(TV.c (T.int .i64 (1 : Int)))] (TV.agg (qaA x1))), oo]] hn (aC (qd8 h2) <| aN)
theorem quY : ∀ K : Nat, qx1 K
 | 0, c, r, h => by rw [qgZ] at h; cases h
 | K + 1, .c0, r, h => fun cx hn => q5C (quY K) hn h
theorem ql8 {K : Nat}  {r : qaB} (h : qi8 K  = some r) : qc5 prog 109 [] (TV.agg (qaA r)) :=
 qa0 [[0,1]] (by kernel_rfl) (by simp) fun cx hn => quY K .c0 r h cx hn
open Go.Proofs.Try (prog)
def ival (a : qaB) : Int := bif a.Neg then -val a.Abs else val a.Abs
def mkI (z : Int) : qaB := ⟨decide (z < 0), digs z.natAbs⟩
theorem qa2 (z : Int) : ival (mkI z) = z := by
  unfold ival mkI
  simp only [qf1 (Int.natCast_nonneg _)]
  by_cases h : z < 0
  · simp only [h, decide_true, cond_true]; omega
  · simp only [h, decide_false, cond_false]; omega
theorem qfZ (z : Int) : Dig (mkI z).Abs := qeG _
theorem q3W {z : Int} (h : 0 ≤ z) : mkI z = ⟨false, digs z⟩ := by
  unfold mkI
  rw [show (z.natAbs : Int) = z by omega, decide_eq_false (by omega)]
theorem zpR {z : Int} (h : z < 0) : mkI z = ⟨true, digs (-z)⟩ := by
  unfold mkI
  rw [show (z.natAbs : Int) = -z by omega, decide_eq_true h]
theorem qjD {z : Int} {n : Nat} (h1 : -(4294967296 ^ n) < z) (h2 : z < 4294967296 ^ n) : (mkI z).Abs.length ≤ n := qq5 (by omega)
theorem qvC (a : qaB) (h : Dig a.Abs) : val a.Abs = (ival a).natAbs := by
  have := qbE h
  unfold ival
  cases a.Neg <;> simp <;> omega
theorem qfX (x y : Int) : (x < y ∧ cmpI x y = -1) ∨ (x = y ∧ cmpI x y = 0) ∨ (y < x ∧ cmpI x y = 1) := by
  unfold cmpI
  split
  · omega
  · split <;> omega
theorem zc6 {x y : Int} (h0 : 0 ≤ x) (h : x ≤ y) : ∀ n : Nat, x ^ n ≤ y ^ n
  | 0 => by simp
  | n + 1 => by
    rw [Int.pow_succ, Int.pow_succ]
    exact Int.mul_le_mul (zc6 h0 h n) h h0 (Int.pow_nonneg (by omega))
theorem qh0 (neg : Bool) {z : Int} (h : 0 ≤ z) : Ev (fun K => qh1 K neg (digs z)) (mkI (bif neg then -z else z)) := by
  refine qaJ ?_
  simp only [qh1, qk4]
  have hn := qlJ h
  cases neg
  · refine ev_f rfl (qeW (qaT _) ?_)
    rw [cond_false, q3W h]
  · refine ev_t rfl (qeW (qaT _) ?_)
    rw [cond_true]
    by_cases hz : z = 0
    · subst hz; rw [qgT, Int.neg_zero, q3W (Int.le_refl 0), qgT]; rfl
    · rw [zpR (by omega), Int.neg_neg]
      congr 1
      rw [decide_eq_true_iff]
      have : digs z ≠ [] := fun e => hz (hn.1 e)
      have := List.length_pos_iff.2 this
      omega
theorem qn7 (neg : Bool) {a : List Int} (h : Dig a) (hs : a.length ≤ 34359738368) : Ev (fun K => qlI K neg a) (mkI (bif neg then -val a else val a)) := by
  refine qaJ ?_
  simp only [qlI, qk7]
  exact qaG (qoN h hs) (qaG (qh0 neg (qbE h)) (qaT _))
theorem qf9 {n : Int} (h : -9223372036854775808 ≤ n ∧ n < 9223372036854775808) : Ev (fun K => qiA K n) (mkI n) := by
  refine qaJ ?_
  simp only [qiA, qoX, qo9]
  by_cases hn : n < 0
  · refine ev_t (by simpa using hn) ?_
    rw [show (0 - n % 18446744073709551616) % 18446744073709551616 = -n by omega]
    have := qh0 true (z := -n) (by omega)
    rw [cond_true, Int.neg_neg] at this
    exact qaG (q0T (by omega) (by omega)) (qaG this (qaT _))
  · refine ev_f (by simpa using hn) ?_
    rw [Int.emod_eq_of_lt (by omega) (by omega)]
    exact qaG (q0T (by omega) (by omega)) (qaG (qh0 false (z := n) (by omega)) (qaT _))
theorem qkB {a : qaB} (h : Dig a.Abs) (hs : a.Abs.length ≤ 34359738368) : Ev (fun K => qhA K a) (mkI (ival a).natAbs) := by
  refine qaJ ?_
  simp only [qhA, qmY]
  have := qn7 false h hs
  rw [cond_false, qvC a h] at this
  exact qaG this (qaT _)
theorem zl6 {a : qaB} (h : Dig a.Abs) (hs : a.Abs.length ≤ 34359738368) : Ev (fun K => q06 K a) (mkI (-ival a)) := by
  refine qaJ ?_
  simp only [q06, qmU]
  have := qn7 (!a.Neg) h hs
  refine qaG (qeW this ?_) (qaT _)
  congr 1
  unfold ival
  cases a.Neg <;> simp
theorem qoY {a : qaB} (h : Dig a.Abs) (hs : a.Abs.length ≤ 34359738368) : Ev (fun K => qj9 K a) (mkI (ival a)) := by
  refine qaJ ?_
  simp only [qj9, qi5]
  exact qaG (qn7 a.Neg h hs) (qaT _)
theorem qfQ {a b : qaB} (ha : Dig a.Abs) (hb : Dig b.Abs) (hs : a.Abs.length + b.Abs.length ≤ 34359738368) : Ev (fun K => qf0 K a b) (mkI (ival a * ival b)) := by
  refine qaJ ?_
  simp only [qf0, qmV]
  refine qaG (zkY ha hb hs) ?_
  refine qaG (qeW (qh0 _ (Int.mul_nonneg (qbE ha) (qbE hb))) ?_) (qaT _)
  congr 1
  unfold ival
  cases a.Neg <;> cases b.Neg <;> simp [Int.neg_mul, Int.mul_neg]
theorem qn6 {a : qaB} (ha : Dig a.Abs) (hs : a.Abs.length < 4611686018427387904) : Ev (fun K => qj4 K a) (cmpI (ival a) 0) := by
  refine qaJ ?_
  simp only [qj4, qk5]
  refine qaG (qtL ha hs) ?_
  have := qbE ha
  unfold ival cmpI
  by_cases h0 : val a.Abs = 0
  · refine ev_t (by simpa using h0) (qeW (qaT _) ?_)
    cases a.Neg <;> simp [h0]
  · refine ev_f (by simpa using h0) ?_
    cases a.Neg
    · refine ev_f rfl (qeW (qaT _) ?_)
      rw [cond_false, if_neg (by omega), if_pos (by omega)]
    · refine ev_t rfl (qeW (qaT _) ?_)
      rw [cond_true, if_pos (by omega)]
theorem qkA {a b : qaB} (ha : Dig a.Abs) (hb : Dig b.Abs) (hs : a.Abs.length < 4611686018427387904) (ht : b.Abs.length < 4611686018427387904) : Ev (fun K => qg9 K a b) (cmpI (ival a) (ival b)) := by
  refine qaJ ?_
  simp only [qg9, qmW]
  refine qaG (qn6 ha hs) (qaG (qn6 hb ht) ?_)
  have hva := qbE ha
  have hvb := qbE hb
  have va := qvC a ha
  have vb := qvC b hb
  have h1 := qpO ha hb hs ht
  have h2 := qpO hb ha ht hs
  have c1 := qfX (ival a) 0
  have c2 := qfX (ival b) 0
  have c3 := qfX (val a.Abs) (val b.Abs)
  have c4 := qfX (val b.Abs) (val a.Abs)
  have c5 := qfX (ival a) (ival b)
  refine zu8 (fun d => qeW (qaT _) ?_) (fun d => zu8 (fun d2 => qeW (qaT _) ?_) (fun d2 => zu8 (fun d3 => qaG h2 (qeW (qaT _) ?_)) (fun d3 => qaG h1 (qeW (qaT _) ?_))))
  · have := of_decide_eq_true d; omega
  · have := of_decide_eq_false d; have := of_decide_eq_true d2; omega
  · have := of_decide_eq_false d; have := of_decide_eq_false d2; have := of_decide_eq_true d3; omega
  · have := of_decide_eq_false d; have := of_decide_eq_false d2; have := of_decide_eq_false d3; omega
theorem qgA {a : qaB} (ha : Dig a.Abs) (hs : a.Abs.length < 4611686018427387904) : Ev (fun K => qgS K a) (decide (ival a = 0)) := by
  refine qaJ ?_
  simp only [qgS, qjW]
  refine qaG (qtL ha hs) (qeW (qaT _) ?_)
  have := qvC a ha
  rw [decide_eq_decide]; omega
theorem qpL : Ev (fun K => qi8 K) (mkI 1) := by
  refine qaJ ?_
  simp only [qi8, qgZ]
  exact qaG (qf9 (by decide)) (qaT _)
theorem qxF {z : Int} {n : Nat} (h0 : 0 ≤ z) (h : z < 4294967296 ^ n) : (mkI z).Abs.length ≤ n := qjD (by have := qe2 n; omega) h
open Go.Proofs.Try (prog)
def qh2 (K : Nat) (x : Int) (y : Int) (c0 : Int) : Option (Int × Int) :=
 (qhY K x y c0).bind fun x1 =>
 some (x1.1, x1.2)
theorem qpP {K : Nat} {x : Int} {y : Int} {c0 : Int} {r : (Int × Int)} (h : qh2 K x y c0 = some r) : zm5 prog 149 [vi .u32 x, vi .u32 y, .c (C.ptr 6 0)] [(6, .var [C.t (T.int .u32 c0)])] [(6, .var [C.t (T.int .u32 r.2)])] (vi .u32 r.1) := by
 refine zoY (n := 17) (by kernel_rfl) (by simp) fun cx hn H exs => ?_
 unfold qh2 at h
 obtain ⟨x1, h2, h⟩ := qaH h
 have h := oinj h; subst h
 exact zpE (fuel := 70) [rg1, rgG [oo, oo, oo, opI (.call [[0], [0], [0]] [(ti .u32 x), (ti .u32 y), (ti .u32 c0)] (TV.tup [(false, [(T.int .u32 x1.1)]), (false, [(T.int .u32 x1.2)])])), oo, oo, oo, oo, oo], rg2, rg2]
  _
  ((6, .var [C.t (T.int .u32 x1.2)]) :: (6, .var [C.t (T.int .u32 c0)]) :: H) hn (by kernel_rfl) (aC (qhX h2) <| aN) (fun k => (zvD _ _ _ _ k))
open Go.Proofs.Try (prog)
inductive qrZ where
 | c0 (a : (List Int)) (b : (List Int))
 | c1 (carry : Int) (r25 : (List Int)) (a : (List Int)) (b : (List Int)) (t27 : (List Int)) (t28 : Int) (t29 : Int)
 | c2 (carry : Int) (r25 : (List Int)) (a : (List Int)) (i : Int)
def qcQ : Nat → qrZ → Option (List Int)
 | 0, _ => none
 | K + 1, .c0 a b =>
  (qcD K a).bind fun x1 =>
  (qcD K b).bind fun x3 =>
  bif (decide ((x1.length : Int) < (x3.length : Int))) then
   gd (0 ≤ (wI6 ((x3.length : Int) + (1 : Int))) ∧ (wI6 ((x3.length : Int) + (1 : Int))) ≤ (wI6 ((x3.length : Int) + (1 : Int))) ∧ (4 : Int) * (wI6 ((x3.length : Int) + (1 : Int))) ≤ 140737488355328) <|
   qcQ K (.c1 (0 : Int) (List.replicate (wI6 ((x3.length : Int) + (1 : Int))).toNat ((0 : Int) : Int)) x3 x1 x1 (x1.length : Int) (0 : Int))
  else
   gd (0 ≤ (wI6 ((x1.length : Int) + (1 : Int))) ∧ (wI6 ((x1.length : Int) + (1 : Int))) ≤ (wI6 ((x1.length : Int) + (1 : Int))) ∧ (4 : Int) * (wI6 ((x1.length : Int) + (1 : Int))) ≤ 140737488355328) <|
   qcQ K (.c1 (0 : Int) (List.replicate (wI6 ((x1.length : Int) + (1 : Int))).toNat ((0 : Int) : Int)) x1 x3 x3 (x3.length : Int) (0 : Int))
 | K + 1, .c1 carry r25 a b t27 t28 t29 =>
  bif (decide (t29 < t28)) then
   (gi t27 t29).bind fun x2 =>
   (gi a t29).bind fun x4 =>
   (qh2 K x4 x2 carry).bind fun x6 =>
   (gi r25 t29).bind fun _ =>
   qcQ K (.c1 x6.2 (r25.set (t29.toNat) x6.1) a b t27 t28 (wI6 (t29 + (1 : Int))))
  else
   qcQ K (.c2 carry r25 a (b.length : Int))
 | K + 1, .c2 carry r25 a i =>
  bif (decide (i < (a.length : Int))) then
   (gi a i).bind fun x2 =>
   (qh2 K x2 (0 : Int) carry).bind fun x4 =>
   (gi r25 i).bind fun _ =>
   qcQ K (.c2 x4.2 (r25.set (i.toNat) x4.1) a (wI6 (i + (1 : Int))))
  else
   (gi r25 (a.length : Int)).bind fun _ =>
   (qcD K (r25.set ((a.length : Int).toNat) carry)).bind fun x4 =>
   some x4
def q0X (K : Nat) (a : (List Int)) (b : (List Int)) : Option (List Int) := qcQ K (.c0 a b)
noncomputable def qmB : Code := qbQ prog 106
noncomputable def zhF : qrZ → List Fr
 | .c0 .. => [.code qmB]
 | .c1 .. => [.code (.loop (atC qmB [1,1,1,1,1,1,0,1,0,0])), .blk 0, .code (atC qmB [1,1,1,1,1,1,1])]
 | .c2 .. => [.code (.loop (atC qmB [1,1,1,1,1,1,1,0,1,0,0])), .blk 2, .code (atC qmB [1,1,1,1,1,1,1,1])]
def zk6 : qrZ → St
 | .c0 a b => St.init [(tl 1 a qaC), (tl 1 b qaC)]
 | .c1 carry r25 a b t27 t28 t29 => ⟨[(0, vl 1 a qaC), (1, vl 1 b qaC), (5, .c (C.row 25 0 r25.length)), (6, .c (C.ptr 6 0)), (7, .c (C.fn 149 [Cap.ptr 6 0])), (27, vl 1 t27 qaC), (28, vi .i64 t28), (29, vi .i64 t29)], [(6, .var [C.t (T.int .u32 carry)]), (25, .row 101 1 (r25.map qaC) 0)], []⟩
 | .c2 carry r25 a i => ⟨[(0, vl 1 a qaC), (5, .c (C.row 25 0 r25.length)), (6, .c (C.ptr 6 0)), (7, .c (C.fn 149 [Cap.ptr 6 0])), (10, vi .i64 i)], [(6, .var [C.t (T.int .u32 carry)]), (25, .row 101 1 (r25.map qaC) 0)], []⟩
def qv7 (cx : Cx) (c : qrZ) (r : (List Int)) : Prop := Wk prog cx (qc2 prog 106 [[1]] (tl 1 r qaC)) (zhF c) .normal (zk6 c)
abbrev qv8 (K : Nat) : Prop := ∀ c r, qcQ K c = some r → ∀ cx : Cx, cx.n = 69 → qv7 cx c r
theorem zlA {K} (ih : qv8 K) {cx} (hn : cx.n = 69) {a b} {r} (h : qcQ (K + 1) (.c0 a b) = some r) : qv7 cx (.c0 a b) r := by
 rw [qcQ] at h
 obtain ⟨x1, h2, h⟩ := qaH h
 obtain ⟨x3, h4, h⟩ := qaH h
 rcases qaQ h with ⟨h5, h⟩ | ⟨h5, h⟩
 ·obtain ⟨h6, h⟩ := qbI h
  exact wkG [rg1, rgG [oo, opI (.call [[1]] [(tl 1 a qaC)] (tl 1 x1 qaC)), oo, opI (.call [[1]] [(tl 1 b qaC)] (tl 1 x3 qaC)), oo, oo], rgG [oo, opI (.ln (x1.length : Int)), oo, opI (.ln (x3.length : Int)), oo], bTr, rg4, rgG [oo, opI (.ln (x3.length : Int)), oo, opI (.mk (qaC (0 : Int)) ((List.replicate (wI6 ((x3.length : Int) + (1 : Int))).toNat ((0 : Int) : Int)).map qaC)), oo], rg2, rgG [.op .clo, oo], rgG [oo, opI (.ln (x1.length : Int)), oo], .pre [.rl 5 0 (List.replicate (wI6 ((x3.length : Int) + (1 : Int))).toNat ((0 : Int) : Int)).length, .keep [0,1,5,6,7,27,28,29] [6,25]]] hn (aC (qaU h2) <| aC (qaU h4) <| aC (qaX x1 qaC) <| aC (qaX x3 qaC) <| aC h5 <| aC (qaX x3 qaC) <| aC h6.1 <| aC h6.2.1 <| aC h6.2.2 <| aC (qgM _ _ _ : List.replicate (wI6 ((x3.length : Int) + (1 : Int))).toNat (qaC (0 : Int)) = (List.replicate (wI6 ((x3.length : Int) + (1 : Int))).toNat ((0 : Int) : Int)).map qaC) <| aC (qaX x1 qaC) <| aC r0 <| aC (by simp : (wI6 ((x3.length : Int) + (1 : Int))).toNat = (List.replicate (wI6 ((x3.length : Int) + (1 : Int))).toNat ((0 : Int) : Int)).length) <| aN) (ih _ _ h cx hn)
 ·obtain ⟨h6, h⟩ := qbI h
  exact wkG [rg1, rgG [oo, opI (.call [[1]] [(tl 1 a qaC)] (tl 1 x1 qaC)), oo, opI (.call [[1]] [(tl 1 b qaC)] (tl 1 x3 qaC)), oo, oo], rgG [oo, opI (.ln (x1.length : Int)), oo, opI (.ln (x3.length : Int)), oo], bFa, rgG [oo, opI (.ln (x1.length : Int)), oo, opI (.mk (qaC (0 : Int)) ((List.replicate (wI6 ((x1.length : Int) + (1 : Int))).toNat ((0 : Int) : Int)).map qaC)), oo], rg2, rgG [.op .clo, oo], rgG [oo, opI (.ln (x3.length : Int)), oo], .pre [.rl 5 0 (List.replicate (wI6 ((x1.length : Int) + (1 : Int))).toNat ((0 : Int) : Int)).length, .keep [0,1,5,6,7,27,28,29] [6,25]]] hn (aC (qaU h2) <| aC (qaU h4) <| aC (qaX x1 qaC) <| aC (qaX x3 qaC) <| aC h5 <| aC (qaX x1 qaC) <| aC h6.1 <| aC h6.2.1 <| aC h6.2.2 <| aC (qgM _ _ _ : List.replicate (wI6 ((x1.length : Int) + (1 : Int))).toNat (qaC (0 : Int)) = (List.replicate (wI6 ((x1.length : Int) + (1 : Int))).toNat ((0 : Int) : Int)).map qaC) <| aC (qaX x3 qaC) <| aC r0 <| aC (by simp : (wI6 ((x1.length : Int) + (1 : Int))).toNat = (List.replicate (wI6 ((x1.length : Int) + (1 : Int))).toNat ((0 : Int) : Int)).length) <| aN) (ih _ _ h cx hn)
theorem zk9 {K} (ih : qv8 K) {cx} (hn : cx.n = 69) {carry r25 a b t27 t28 t29} {r} (h : qcQ (K + 1) (.c1 carry r25 a b t27 t28 t29) = some r) : qv7 cx (.c1 carry r25 a b t27 t28 t29) r := by
 rw [qcQ] at h
 rcases qaQ h with ⟨h1, h⟩ | ⟨h1, h⟩
 ·obtain ⟨x2, h3, h⟩ := qaH h
  obtain ⟨x4, h5, h⟩ := qaH h
  obtain ⟨x6, h7, h⟩ := qaH h
  obtain ⟨x8, h9, h⟩ := qaH h
  exact wkG [.go, rg1, bTr, rgG [oo, opI (.ix (qaC x2)), oo, oo, oo], rgG [oo, oo, oo, oo, oo, opI (.ix (qaC x4)), oo, oo, .callR [6] [(6, .var [C.t (T.int .u32 x6.2)])] (vi .u32 x6.1), .op .ir, opI (.st (qaC x8) ((r25.set (t29.toNat) x6.1).map qaC))], rg2, .pre [.rl 5 0 (r25.set (t29.toNat) x6.1).length, .keep [0,1,5,6,7,27,28,29] [6,25]]] hn (aC h1 <| aC (qa1 h3) <| aC (qbS qaC h3) <| aC (qa1 h5) <| aC (qbS qaC h5) <| aC (qpP h7) <| aC (qa1 h9) <| aC (qcB h9 (by simp) : t29 < ((r25.length : Nat) : Int)) <| aC (qcA qaC h9 : (r25.map qaC)[(0 + t29.toNat)]? = some (qaC x8)) <| aC (qc4 _ _ x6.1 _ : (r25.map qaC).set (0 + t29.toNat) (qbW (qaC x8) 0 [(T.int .u32 x6.1)]) = (r25.set (t29.toNat) x6.1).map qaC) <| aC (Nat.zero_le _ : 0 ≤ (0 + t29.toNat)) <| aC r0 <| aC (by simp : r25.length = (r25.set (t29.toNat) x6.1).length) <| aN) (ih _ _ h cx hn)
 ·exact wkG [.go, rg1, bFa, rgG [oo, opI (.ln (b.length : Int)), oo], .pre [.rl 5 0 r25.length, .keep [0,5,6,7,10] [6,25]]] hn (aC h1 <| aC (qaX b qaC) <| aC r0 <| aC (lq r25) <| aN) (ih _ _ h cx hn)
theorem zk8 {K} (ih : qv8 K) {cx} (hn : cx.n = 69) {carry r25 a i} {r} (h : qcQ (K + 1) (.c2 carry r25 a i) = some r) : qv7 cx (.c2 carry r25 a i) r := by
 rw [qcQ] at h
 rcases qaQ h with ⟨h1, h⟩ | ⟨h1, h⟩
 ·obtain ⟨x2, h3, h⟩ := qaH h
  obtain ⟨x4, h5, h⟩ := qaH h
  obtain ⟨x6, h7, h⟩ := qaH h
  exact wkG [.go, rgG [oo, oo, opI (.ln (a.length : Int)), oo], bTr, rgG [oo, oo, oo, oo, oo, opI (.ix (qaC x2)), oo, .callR [6] [(6, .var [C.t (T.int .u32 x4.2)])] (vi .u32 x4.1), .op .ir, opI (.st (qaC x6) ((r25.set (i.toNat) x4.1).map qaC))], rg3, .pre [.rl 5 0 (r25.set (i.toNat) x4.1).length, .keep [0,5,6,7,10] [6,25]]] hn (aC (qaX a qaC) <| aC h1 <| aC (qa1 h3) <| aC (qbS qaC h3) <| aC (qpP h5) <| aC (qa1 h7) <| aC (qcB h7 (by simp) : i < ((r25.length : Nat) : Int)) <| aC (qcA qaC h7 : (r25.map qaC)[(0 + i.toNat)]? = some (qaC x6)) <| aC (qc4 _ _ x4.1 _ : (r25.map qaC).set (0 + i.toNat) (qbW (qaC x6) 0 [(T.int .u32 x4.1)]) = (r25.set (i.toNat) x4.1).map qaC) <| aC (Nat.zero_le _ : 0 ≤ (0 + i.toNat)) <| aC r0 <| aC (by simp : r25.length = (r25.set (i.toNat) x4.1).length) <| aN) (ih _ _ h cx hn)
 ·obtain ⟨x2, h3, h⟩ := qaH h
  obtain ⟨x4, h5, h⟩ := qaH h
  have h := oinj h; subst h
  exact wkR [.go, rgG [oo, oo, opI (.ln (a.length : Int)), oo], bFa, rgG [oo, oo, opI (.ln (a.length : Int)), oo, .op .ir, opI (.st (qaC x2) ((r25.set ((a.length : Int).toNat) carry).map qaC))], rgG [oo, .snap 67 (max 0 (0 + r25.length)) ((r25.set ((a.length : Int).toNat) carry).map qaC), opI (.call [[1]] [(TV.c (T.sl 1 ((r25.set ((a.length : Int).toNat) carry).map qaC)))] (tl 1 x4 qaC)), oo]] hn (aC (qaX a qaC) <| aC h1 <| aC (qaX a qaC) <| aC (qa1 h3) <| aC (qcB h3 (by simp) : (a.length : Int) < ((r25.length : Nat) : Int)) <| aC (qcA qaC h3 : (r25.map qaC)[(0 + (a.length : Int).toNat)]? = some (qaC x2)) <| aC (qc4 _ _ carry _ : (r25.map qaC).set (0 + (a.length : Int).toNat) (qbW (qaC x2) 0 [(T.int .u32 carry)]) = (r25.set ((a.length : Int).toNat) carry).map qaC) <| aC (Nat.zero_le _ : 0 ≤ (0 + (a.length : Int).toNat)) <| aC (qbJ _ _ _ (by simp) : (((r25.set ((a.length : Int).toNat) carry).map qaC).drop 0).take r25.length = (r25.set ((a.length : Int).toNat) carry).map qaC) <| aC (rfl : (max 0 (0 + r25.length)) = (max 0 (0 + r25.length))) <| aC (qaU h5) <| aN)
theorem qrY : ∀ K : Nat, qv8 K
 | 0, c, r, h => by rw [qcQ] at h; cases h
 | K + 1, .c0 .., r, h => fun cx hn => zlA (qrY K) hn h
 | K + 1, .c1 .., r, h => fun cx hn => zk9 (qrY K) hn h
 | K + 1, .c2 .., r, h => fun cx hn => zk8 (qrY K) hn h
theorem zcG {K : Nat} {a : (List Int)} {b : (List Int)} {r : (List Int)} (h : q0X K a b = some r) : qc5 prog 106 [(tl 1 a qaC), (tl 1 b qaC)] (tl 1 r qaC) :=
 qa0 [[1]] (by kernel_rfl) (by simp) fun cx hn => qrY K (.c0 a b) r h cx hn
open Go.Proofs.Try (prog)
inductive qlW where
 | c0 (x : Int) (y : Int) (borrow : Int)
def qh5 : Nat → qlW → Option (Int × Int)
 | 0, _ => none
 | _ + 1, .c0 x y borrow =>
  some ((wU3 ((wU3 (x - y)) - borrow)), (qd2 .u32 (bits .or .u32 (bits .and .u32 (bits .xor .u32 (if IntKind.signed .u32 then -1 else IntKind.max .u32) x) y) (bits .and .u32 (bits .xor .u32 (if IntKind.signed .u32 then -1 else IntKind.max .u32) (bits .xor .u32 x y)) (wU3 ((wU3 (x - y)) - borrow)))) (31 : Int)))
def qn4 (K : Nat) (x : Int) (y : Int) (borrow : Int) : Option (Int × Int) := qh5 K (.c0 x y borrow)
noncomputable def q41 : Code := qbQ prog 151
noncomputable def q7K : qlW → List Fr
 | .c0 .. => [.code q41]
def q97 : qlW → St
 | .c0 x y borrow => St.init [(ti .u32 x), (ti .u32 y), (ti .u32 borrow)]
def qzU (cx : Cx) (c : qlW) (r : (Int × Int)) : Prop := Wk prog cx (qc2 prog 151 [[0], [0]] (TV.tup [(false, [(T.int .u32 r.1)]), (false, [(T.int .u32 r.2)])])) (q7K c) .normal (q97 c)
abbrev qzV (K : Nat) : Prop := ∀ c r, qh5 K c = some r → ∀ cx : Cx, cx.n = 25 → qzU cx c r
theorem q98 {K} (_ : qzV K) {cx} (hn : cx.n = 25) {x y borrow} {r} (h : qh5 (K + 1) (.c0 x y borrow) = some r) : qzU cx (.c0 x y borrow) r := by
 rw [qh5] at h
 have h := oinj h; subst h
 exact zn4 (fuel := 62) [rg2, rg6, rgG [oo, oo, oo, oo, oo, oo, oo, oo, oo, oo, oo, oo, oo]] _ hn (by kernel_rfl) aN
theorem qxG : ∀ K : Nat, qzV K
 | 0, c, r, h => by rw [qh5] at h; cases h
 | K + 1, .c0 .., r, h => fun cx hn => q98 (qxG K) hn h
theorem quU {K : Nat} {x : Int} {y : Int} {borrow : Int} {r : (Int × Int)} (h : qn4 K x y borrow = some r) : qc5 prog 151 [(ti .u32 x), (ti .u32 y), (ti .u32 borrow)] (TV.tup [(false, [(T.int .u32 r.1)]), (false, [(T.int .u32 r.2)])]) :=
 qa0 [[0], [0]] (by kernel_rfl) (by simp) fun cx hn => qxG K (.c0 x y borrow) r h cx hn
open Go.Proofs.Try (prog)
inductive qrM where
 | c0 (a : (List Int)) (b : (List Int))
 | c1 (r21 : (List Int)) (b : (List Int)) (borrow : Int) (t22 : (List Int)) (t23 : Int) (t24 : Int)
 | c2 (r21 : (List Int)) (b : (List Int)) (borrow : Int) (t22 : (List Int)) (t23 : Int) (t24 : Int)
def qdF : Nat → qrM → Option ((List Int) × Bool)
 | 0, _ => none
 | K + 1, .c0 a b =>
  (qn1 K a b).bind fun x1 =>
  bif (decide (x1 < (0 : Int))) then
   some ([], false)
  else
   (qcD K a).bind fun x4 =>
   (qcD K b).bind fun x6 =>
   gd (0 ≤ (x4.length : Int) ∧ (x4.length : Int) ≤ (x4.length : Int) ∧ (4 : Int) * (x4.length : Int) ≤ 140737488355328) <|
   qdF K (.c1 (List.replicate (x4.length : Int).toNat ((0 : Int) : Int)) x6 (0 : Int) x4 (x4.length : Int) (0 : Int))
 | K + 1, .c1 r21 b borrow t22 t23 t24 =>
  bif (decide (t24 < t23)) then
   (gi t22 t24).bind fun x2 =>
   bif (decide (t24 < (b.length : Int))) then
    (gi b t24).bind fun x5 =>
    (qn4 K x2 x5 borrow).bind fun x7 =>
    (gi r21 t24).bind fun _ =>
    qdF K (.c2 (r21.set (t24.toNat) x7.1) b x7.2 t22 t23 t24)
   else
    (qn4 K x2 (0 : Int) borrow).bind fun x5 =>
    (gi r21 t24).bind fun _ =>
    qdF K (.c2 (r21.set (t24.toNat) x5.1) b x5.2 t22 t23 t24)
  else
   (qcD K r21).bind fun x2 =>
   some (x2, true)
 | K + 1, .c2 r21 b borrow t22 t23 t24 =>
  qdF K (.c1 r21 b borrow t22 t23 (wI6 (t24 + (1 : Int))))
def qwX (K : Nat) (a : (List Int)) (b : (List Int)) : Option ((List Int) × Bool) := qdF K (.c0 a b)
noncomputable def qjT : Code := qbQ prog 107
noncomputable def zg8 : qrM → List Fr
 | .c0 .. => [.code qjT]
 | .c1 .. => [.code (.loop (atC qjT [1,1,1,1,1,0,1,0,0])), .blk 0, .code (atC qjT [1,1,1,1,1,1])]
 | .c2 .. => [.code (atC qjT [1,1,1,1,1,0,1,0,0,1,1,1]), .lp (atC qjT [1,1,1,1,1,0,1,0,0]), .blk 0, .code (atC qjT [1,1,1,1,1,1])]
def zkJ : qrM → St
 | .c0 a b => St.init [(tl 1 a qaC), (tl 1 b qaC)]
 | .c1 r21 b borrow t22 t23 t24 => ⟨[(1, vl 1 b qaC), (6, .c (C.row 21 0 r21.length)), (7, vi .u32 borrow), (22, vl 1 t22 qaC), (23, vi .i64 t23), (24, vi .i64 t24)], [(21, .row 101 1 (r21.map qaC) 0)], []⟩
 | .c2 r21 b borrow t22 t23 t24 => ⟨[(1, vl 1 b qaC), (6, .c (C.row 21 0 r21.length)), (7, vi .u32 borrow), (22, vl 1 t22 qaC), (23, vi .i64 t23), (24, vi .i64 t24)], [(21, .row 101 1 (r21.map qaC) 0)], []⟩
def qv5 (cx : Cx) (c : qrM) (r : ((List Int) × Bool)) : Prop := Wk prog cx (qc2 prog 107 [[1], [0]] (TV.tup [(false, [(T.sl 1 (r.1.map qaC))]), (false, [(T.bool r.2)])])) (zg8 c) .normal (zkJ c)
abbrev qv6 (K : Nat) : Prop := ∀ c r, qdF K c = some r → ∀ cx : Cx, cx.n = 50 → qv5 cx c r
theorem zkM {K} (ih : qv6 K) {cx} (hn : cx.n = 50) {a b} {r} (h : qdF (K + 1) (.c0 a b) = some r) : qv5 cx (.c0 a b) r := by
 rw [qdF] at h
 obtain ⟨x1, h2, h⟩ := qaH h
 rcases qaQ h with ⟨h3, h⟩ | ⟨h3, h⟩
 ·have h := oinj h; subst h
  exact wkR [rg2, rgG [oo, oo, opI (.call [[1], [1]] [(tl 1 a qaC), (tl 1 b qaC)] (ti .i64 x1)), oo], bTr, rg2] hn (aC (qe4 h2) <| aC h3 <| aN)
 ·obtain ⟨x4, h5, h⟩ := qaH h
  obtain ⟨x6, h7, h⟩ := qaH h
  obtain ⟨h8, h⟩ := qbI h
  exact wkG [rg2, rgG [oo, oo, opI (.call [[1], [1]] [(tl 1 a qaC), (tl 1 b qaC)] (ti .i64 x1)), oo], bFa, rgG [oo, opI (.call [[1]] [(tl 1 a qaC)] (tl 1 x4 qaC)), oo, opI (.call [[1]] [(tl 1 b qaC)] (tl 1 x6 qaC)), oo, oo], rgG [oo, opI (.ln (x4.length : Int)), opI (.mk (qaC (0 : Int)) ((List.replicate (x4.length : Int).toNat ((0 : Int) : Int)).map qaC)), oo], rg1, rgG [oo, opI (.ln (x4.length : Int)), oo], .pre [.rl 6 0 (List.replicate (x4.length : Int).toNat ((0 : Int) : Int)).length, .keep [1,6,7,22,23,24] [21]]] hn (aC (qe4 h2) <| aC h3 <| aC (qaU h5) <| aC (qaU h7) <| aC (qaX x4 qaC) <| aC h8.1 <| aC h8.2.1 <| aC h8.2.2 <| aC (qgM _ _ _ : List.replicate (x4.length : Int).toNat (qaC (0 : Int)) = (List.replicate (x4.length : Int).toNat ((0 : Int) : Int)).map qaC) <| aC (qaX x4 qaC) <| aC r0 <| aC (by simp : (x4.length : Int).toNat = (List.replicate (x4.length : Int).toNat ((0 : Int) : Int)).length) <| aN) (ih _ _ h cx hn)
theorem zkL {K} (ih : qv6 K) {cx} (hn : cx.n = 50) {r21 b borrow t22 t23 t24} {r} (h : qdF (K + 1) (.c1 r21 b borrow t22 t23 t24) = some r) : qv5 cx (.c1 r21 b borrow t22 t23 t24) r := by
 rw [qdF] at h
 rcases qaQ h with ⟨h1, h⟩ | ⟨h1, h⟩
 ·obtain ⟨x2, h3, h⟩ := qaH h
  rcases qaQ h with ⟨h4, h⟩ | ⟨h4, h⟩
  ·obtain ⟨x5, h6, h⟩ := qaH h
   obtain ⟨x7, h8, h⟩ := qaH h
   obtain ⟨x9, h10, h⟩ := qaH h
   exact wkG [.go, rg1, bTr, rgG [oo, opI (.ix (qaC x2)), oo, oo, oo], rg1, rgG [oo, oo, opI (.ln (b.length : Int)), oo], bTr, rgG [oo, oo, opI (.ix (qaC x5)), oo, oo], rgG [oo, oo, oo, oo, oo, opI (.call [[0], [0], [0]] [(ti .u32 x2), (ti .u32 x5), (ti .u32 borrow)] (TV.tup [(false, [(T.int .u32 x7.1)]), (false, [(T.int .u32 x7.2)])])), oo, oo, oo, .op .ir, opI (.st (qaC x9) ((r21.set (t24.toNat) x7.1).map qaC)), oo], .pre [.rl 6 0 (r21.set (t24.toNat) x7.1).length, .keep [1,6,7,22,23,24] [21]]] hn (aC h1 <| aC (qa1 h3) <| aC (qbS qaC h3) <| aC (qaX b qaC) <| aC h4 <| aC (qa1 h6) <| aC (qbS qaC h6) <| aC (quU h8) <| aC (qa1 h10) <| aC (qcB h10 (by simp) : t24 < ((r21.length : Nat) : Int)) <| aC (qcA qaC h10 : (r21.map qaC)[(0 + t24.toNat)]? = some (qaC x9)) <| aC (qc4 _ _ x7.1 _ : (r21.map qaC).set (0 + t24.toNat) (qbW (qaC x9) 0 [(T.int .u32 x7.1)]) = (r21.set (t24.toNat) x7.1).map qaC) <| aC (Nat.zero_le _ : 0 ≤ (0 + t24.toNat)) <| aC r0 <| aC (by simp : r21.length = (r21.set (t24.toNat) x7.1).length) <| aN) (ih _ _ h cx hn)
  ·obtain ⟨x5, h6, h⟩ := qaH h
   obtain ⟨x7, h8, h⟩ := qaH h
   exact wkG [.go, rg1, bTr, rgG [oo, opI (.ix (qaC x2)), oo, oo, oo], rg1, rgG [oo, oo, opI (.ln (b.length : Int)), oo], bFa, rgG [oo, oo, oo, oo, oo, opI (.call [[0], [0], [0]] [(ti .u32 x2), (TV.c (T.int .u32 (0 : Int))), (ti .u32 borrow)] (TV.tup [(false, [(T.int .u32 x5.1)]), (false, [(T.int .u32 x5.2)])])), oo, oo, oo, .op .ir, opI (.st (qaC x7) ((r21.set (t24.toNat) x5.1).map qaC)), oo], .pre [.rl 6 0 (r21.set (t24.toNat) x5.1).length, .keep [1,6,7,22,23,24] [21]]] hn (aC h1 <| aC (qa1 h3) <| aC (qbS qaC h3) <| aC (qaX b qaC) <| aC h4 <| aC (quU h6) <| aC (qa1 h8) <| aC (qcB h8 (by simp) : t24 < ((r21.length : Nat) : Int)) <| aC (qcA qaC h8 : (r21.map qaC)[(0 + t24.toNat)]? = some (qaC x7)) <| aC (qc4 _ _ x5.1 _ : (r21.map qaC).set (0 + t24.toNat) (qbW (qaC x7) 0 [(T.int .u32 x5.1)]) = (r21.set (t24.toNat) x5.1).map qaC) <| aC (Nat.zero_le _ : 0 ≤ (0 + t24.toNat)) <| aC r0 <| aC (by simp : r21.length = (r21.set (t24.toNat) x5.1).length) <| aN) (ih _ _ h cx hn)
 ·obtain ⟨x2, h3, h⟩ := qaH h
  have h := oinj h; subst h
  exact wkR [.go, rg1, bFa, rgG [oo, .snap 48 (max 0 (0 + r21.length)) (r21.map qaC), opI (.call [[1]] [(tl 1 r21 qaC)] (tl 1 x2 qaC)), oo, oo]] hn (aC h1 <| aC (qbJ _ _ _ (by simp) : ((r21.map qaC).drop 0).take r21.length = r21.map qaC) <| aC (rfl : (max 0 (0 + r21.length)) = (max 0 (0 + r21.length))) <| aC (qaU h3) <| aN)
theorem zkK {K} (ih : qv6 K) {cx} (hn : cx.n = 50) {r21 b borrow t22 t23 t24} {r} (h : qdF (K + 1) (.c2 r21 b borrow t22 t23 t24) = some r) : qv5 cx (.c2 r21 b borrow t22 t23 t24) r := by
 rw [qdF] at h
 exact wkG [rg2, .pre [.rl 6 0 r21.length, .keep [1,6,7,22,23,24] [21]]] hn (aC r0 <| aC (lq r21) <| aN) (ih _ _ h cx hn)
theorem qrL : ∀ K : Nat, qv6 K
 | 0, c, r, h => by rw [qdF] at h; cases h
 | K + 1, .c0 .., r, h => fun cx hn => zkM (qrL K) hn h
 | K + 1, .c1 .., r, h => fun cx hn => zkL (qrL K) hn h
 | K + 1, .c2 .., r, h => fun cx hn => zkK (qrL K) hn h
theorem qtJ {K : Nat} {a : (List Int)} {b : (List Int)} {r : ((List Int) × Bool)} (h : qwX K a b = some r) : qc5 prog 107 [(tl 1 a qaC), (tl 1 b qaC)] (TV.tup [(false, [(T.sl 1 (r.1.map qaC))]), (false, [(T.bool r.2)])]) :=
 qa0 [[1], [0]] (by kernel_rfl) (by simp) fun cx hn => qrL K (.c0 a b) r h cx hn
open Go.Proofs.Try (prog)
inductive qrR where
 | c0 (a : (List Int)) (n : Int)
 | c1 (r28 : (List Int)) (shift : Int) (low : Int) (i : Int)
def qe3 : Nat → qrR → Option (List Int)
 | 0, _ => none
 | K + 1, .c0 a n =>
  (qcD K a).bind fun x1 =>
  bif (decide ((x1.length : Int) = (0 : Int))) then
   some []
  else
   gd (0 ≤ (wI6 ((wI6 ((wI6 (Int.tdiv (min (max n (0 : Int)) (16777216 : Int)) (32 : Int))) + (x1.length : Int))) + (1 : Int))) ∧ (wI6 ((wI6 ((wI6 (Int.tdiv (min (max n (0 : Int)) (16777216 : Int)) (32 : Int))) + (x1.length : Int))) + (1 : Int))) ≤ (wI6 ((wI6 ((wI6 (Int.tdiv (min (max n (0 : Int)) (16777216 : Int)) (32 : Int))) + (x1.length : Int))) + (1 : Int))) ∧ (4 : Int) * (wI6 ((wI6 ((wI6 (Int.tdiv (min (max n (0 : Int)) (16777216 : Int)) (32 : Int))) + (x1.length : Int))) + (1 : Int))) ≤ 140737488355328) <|
   gd (0 ≤ (wI6 (Int.tdiv (min (max n (0 : Int)) (16777216 : Int)) (32 : Int))) ∧ (wI6 (Int.tdiv (min (max n (0 : Int)) (16777216 : Int)) (32 : Int))).toNat ≤ (wI6 ((wI6 ((wI6 (Int.tdiv (min (max n (0 : Int)) (16777216 : Int)) (32 : Int))) + (x1.length : Int))) + (1 : Int))).toNat ∧ (wI6 ((wI6 ((wI6 (Int.tdiv (min (max n (0 : Int)) (16777216 : Int)) (32 : Int))) + (x1.length : Int))) + (1 : Int))).toNat ≤ (wI6 ((wI6 ((wI6 (Int.tdiv (min (max n (0 : Int)) (16777216 : Int)) (32 : Int))) + (x1.length : Int))) + (1 : Int))).toNat ∧ ((wI6 (Int.tdiv (min (max n (0 : Int)) (16777216 : Int)) (32 : Int))).toNat = 0 ∨ (wI6 (Int.tdiv (min (max n (0 : Int)) (16777216 : Int)) (32 : Int))).toNat < (wI6 ((wI6 ((wI6 (Int.tdiv (min (max n (0 : Int)) (16777216 : Int)) (32 : Int))) + (x1.length : Int))) + (1 : Int))).toNat)) <|
   gd ((0 + (wI6 (Int.tdiv (min (max n (0 : Int)) (16777216 : Int)) (32 : Int))).toNat) + ((wI6 ((wI6 ((wI6 (Int.tdiv (min (max n (0 : Int)) (16777216 : Int)) (32 : Int))) + (x1.length : Int))) + (1 : Int))).toNat - (wI6 (Int.tdiv (min (max n (0 : Int)) (16777216 : Int)) (32 : Int))).toNat) ≤ (List.replicate (wI6 ((wI6 ((wI6 (Int.tdiv (min (max n (0 : Int)) (16777216 : Int)) (32 : Int))) + (x1.length : Int))) + (1 : Int))).toNat ((0 : Int) : Int)).length) <|
   bif (decide ((0 : Int) < (Int.tmod (min (max n (0 : Int)) (16777216 : Int)) (32 : Int)))) then
    qe3 K (.c1 (qeV (List.replicate (wI6 ((wI6 ((wI6 (Int.tdiv (min (max n (0 : Int)) (16777216 : Int)) (32 : Int))) + (x1.length : Int))) + (1 : Int))).toNat ((0 : Int) : Int)) (0 + (wI6 (Int.tdiv (min (max n (0 : Int)) (16777216 : Int)) (32 : Int))).toNat) ((wI6 ((wI6 ((wI6 (Int.tdiv (min (max n (0 : Int)) (16777216 : Int)) (32 : Int))) + (x1.length : Int))) + (1 : Int))).toNat - (wI6 (Int.tdiv (min (max n (0 : Int)) (16777216 : Int)) (32 : Int))).toNat) x1) (Int.tmod (min (max n (0 : Int)) (16777216 : Int)) (32 : Int)) (0 : Int) (wI6 (Int.tdiv (min (max n (0 : Int)) (16777216 : Int)) (32 : Int))))
   else
    (qcD K (qeV (List.replicate (wI6 ((wI6 ((wI6 (Int.tdiv (min (max n (0 : Int)) (16777216 : Int)) (32 : Int))) + (x1.length : Int))) + (1 : Int))).toNat ((0 : Int) : Int)) (0 + (wI6 (Int.tdiv (min (max n (0 : Int)) (16777216 : Int)) (32 : Int))).toNat) ((wI6 ((wI6 ((wI6 (Int.tdiv (min (max n (0 : Int)) (16777216 : Int)) (32 : Int))) + (x1.length : Int))) + (1 : Int))).toNat - (wI6 (Int.tdiv (min (max n (0 : Int)) (16777216 : Int)) (32 : Int))).toNat) x1)).bind fun x8 =>
    some x8
 | K + 1, .c1 r28 shift low i =>
  bif (decide (i < ((r28.length : Nat) : Int))) then
   (gi r28 i).bind fun x2 =>
   gd (0 ≤ shift) <|
   (gi r28 i).bind fun _ =>
   gd (0 ≤ (wI6 ((32 : Int) - shift))) <|
   qe3 K (.c1 (r28.set (i.toNat) (bits .or .u32 (qhT .u32 x2 shift) low)) shift (qd2 .u32 x2 (wI6 ((32 : Int) - shift))) (wI6 (i + (1 : Int))))
  else
   (qcD K r28).bind fun x2 =>
   some x2
def qtK (K : Nat) (a : (List Int)) (n : Int) : Option (List Int) := qe3 K (.c0 a n)
noncomputable def qvH : Code := qbQ prog 142
noncomputable def zhA : qrR → List Fr
 | .c0 .. => [.code qvH]
 | .c1 .. => [.code (.loop (atC qvH [1,1,1,1,1,1,1,0,1,0,1,1,0,0])), .blk 0, .code (atC qvH [1,1,1,1,1,1,1,1])]
def zkT : qrR → St
 | .c0 a n => St.init [(tl 1 a qaC), (ti .i64 n)]
 | .c1 r28 shift low i => ⟨[(6, vi .i64 shift), (7, .c (C.row 28 0 r28.length)), (8, vi .u32 low), (9, vi .i64 i)], [(28, .row 101 1 (r28.map qaC) 0)], []⟩
def q0R (cx : Cx) (c : qrR) (r : (List Int)) : Prop := Wk prog cx (qc2 prog 142 [[1]] (tl 1 r qaC)) (zhA c) .normal (zkT c)
abbrev q0S (K : Nat) : Prop := ∀ c r, qe3 K c = some r → ∀ cx : Cx, cx.n = 61 → q0R cx c r
theorem zkV {K} (ih : q0S K) {cx} (hn : cx.n = 61) {a n} {r} (h : qe3 (K + 1) (.c0 a n) = some r) : q0R cx (.c0 a n) r := by
 rw [qe3] at h
 obtain ⟨x1, h2, h⟩ := qaH h
 rcases qaQ h with ⟨h3, h⟩ | ⟨h3, h⟩
 ·have h := oinj h; subst h
  exact wkR [rg1, rgG [oo, opI (.call [[1]] [(tl 1 a qaC)] (tl 1 x1 qaC)), oo], rgG [oo, opI (.ln (x1.length : Int)), oo], bTr, rg1] hn (aC (qaU h2) <| aC (qaX x1 qaC) <| aC h3 <| aN)
 ·obtain ⟨h4, h⟩ := qbI h
  obtain ⟨h5, h⟩ := qbI h
  obtain ⟨h6, h⟩ := qbI h
  rcases qaQ h with ⟨h7, h⟩ | ⟨h7, h⟩
  ·exact wkG [rg1, rgG [oo, opI (.call [[1]] [(tl 1 a qaC)] (tl 1 x1 qaC)), oo], rgG [oo, opI (.ln (x1.length : Int)), oo], bFa, rg4, rg6, rgG [oo, oo, opI (.ln (x1.length : Int)), oo, oo, opI (.mk (qaC (0 : Int)) ((List.replicate (wI6 ((wI6 ((wI6 (Int.tdiv (min (max n (0 : Int)) (16777216 : Int)) (32 : Int))) + (x1.length : Int))) + (1 : Int))).toNat ((0 : Int) : Int)).map qaC)), oo], rgG [oo, oo, opI (.slR ((wI6 (Int.tdiv (min (max n (0 : Int)) (16777216 : Int)) (32 : Int))).toNat) ((wI6 ((wI6 ((wI6 (Int.tdiv (min (max n (0 : Int)) (16777216 : Int)) (32 : Int))) + (x1.length : Int))) + (1 : Int))).toNat) (0 + (wI6 (Int.tdiv (min (max n (0 : Int)) (16777216 : Int)) (32 : Int))).toNat) ((wI6 ((wI6 ((wI6 (Int.tdiv (min (max n (0 : Int)) (16777216 : Int)) (32 : Int))) + (x1.length : Int))) + (1 : Int))).toNat - (wI6 (Int.tdiv (min (max n (0 : Int)) (16777216 : Int)) (32 : Int))).toNat)), oo, opI (.cp (x1.map qaC) ((qeV (List.replicate (wI6 ((wI6 ((wI6 (Int.tdiv (min (max n (0 : Int)) (16777216 : Int)) (32 : Int))) + (x1.length : Int))) + (1 : Int))).toNat ((0 : Int) : Int)) (0 + (wI6 (Int.tdiv (min (max n (0 : Int)) (16777216 : Int)) (32 : Int))).toNat) ((wI6 ((wI6 ((wI6 (Int.tdiv (min (max n (0 : Int)) (16777216 : Int)) (32 : Int))) + (x1.length : Int))) + (1 : Int))).toNat - (wI6 (Int.tdiv (min (max n (0 : Int)) (16777216 : Int)) (32 : Int))).toNat) x1).map qaC) ((min x1.length ((wI6 ((wI6 ((wI6 (Int.tdiv (min (max n (0 : Int)) (16777216 : Int)) (32 : Int))) + (x1.length : Int))) + (1 : Int))).toNat - (wI6 (Int.tdiv (min (max n (0 : Int)) (16777216 : Int)) (32 : Int))).toNat) : Nat) : Int))], rg2, bTr, rg1, rg2, .pre [.rl 7 0 (qeV (List.replicate (wI6 ((wI6 ((wI6 (Int.tdiv (min (max n (0 : Int)) (16777216 : Int)) (32 : Int))) + (x1.length : Int))) + (1 : Int))).toNat ((0 : Int) : Int)) (0 + (wI6 (Int.tdiv (min (max n (0 : Int)) (16777216 : Int)) (32 : Int))).toNat) ((wI6 ((wI6 ((wI6 (Int.tdiv (min (max n (0 : Int)) (16777216 : Int)) (32 : Int))) + (x1.length : Int))) + (1 : Int))).toNat - (wI6 (Int.tdiv (min (max n (0 : Int)) (16777216 : Int)) (32 : Int))).toNat) x1).length, .keep [6,7,8,9] [28]]] hn (aC (qaU h2) <| aC (qaX x1 qaC) <| aC h3 <| aC (qaX x1 qaC) <| aC h4.1 <| aC h4.2.1 <| aC h4.2.2 <| aC (qgM _ _ _ : List.replicate (wI6 ((wI6 ((wI6 (Int.tdiv (min (max n (0 : Int)) (16777216 : Int)) (32 : Int))) + (x1.length : Int))) + (1 : Int))).toNat (qaC (0 : Int)) = (List.replicate (wI6 ((wI6 ((wI6 (Int.tdiv (min (max n (0 : Int)) (16777216 : Int)) (32 : Int))) + (x1.length : Int))) + (1 : Int))).toNat ((0 : Int) : Int)).map qaC) <| aC (⟨h5.1, rfl⟩ : 0 ≤ (wI6 (Int.tdiv (min (max n (0 : Int)) (16777216 : Int)) (32 : Int))) ∧ (wI6 (Int.tdiv (min (max n (0 : Int)) (16777216 : Int)) (32 : Int))).toNat = (wI6 (Int.tdiv (min (max n (0 : Int)) (16777216 : Int)) (32 : Int))).toNat) <| aC (rfl : (wI6 ((wI6 ((wI6 (Int.tdiv (min (max n (0 : Int)) (16777216 : Int)) (32 : Int))) + (x1.length : Int))) + (1 : Int))).toNat = (wI6 ((wI6 ((wI6 (Int.tdiv (min (max n (0 : Int)) (16777216 : Int)) (32 : Int))) + (x1.length : Int))) + (1 : Int))).toNat) <| aC h5.2.1 <| aC h5.2.2.1 <| aC h5.2.2.2 <| aC (rfl : 0 + (wI6 (Int.tdiv (min (max n (0 : Int)) (16777216 : Int)) (32 : Int))).toNat = (0 + (wI6 (Int.tdiv (min (max n (0 : Int)) (16777216 : Int)) (32 : Int))).toNat)) <| aC (rfl : (wI6 ((wI6 ((wI6 (Int.tdiv (min (max n (0 : Int)) (16777216 : Int)) (32 : Int))) + (x1.length : Int))) + (1 : Int))).toNat - (wI6 (Int.tdiv (min (max n (0 : Int)) (16777216 : Int)) (32 : Int))).toNat = ((wI6 ((wI6 ((wI6 (Int.tdiv (min (max n (0 : Int)) (16777216 : Int)) (32 : Int))) + (x1.length : Int))) + (1 : Int))).toNat - (wI6 (Int.tdiv (min (max n (0 : Int)) (16777216 : Int)) (32 : Int))).toNat)) <| aC (rfl : x1.map qaC = x1.map qaC) <| aC (qt9 _ _ _ _ _ h6 : qbW ((List.replicate (wI6 ((wI6 ((wI6 (Int.tdiv (min (max n (0 : Int)) (16777216 : Int)) (32 : Int))) + (x1.length : Int))) + (1 : Int))).toNat ((0 : Int) : Int)).map qaC) (0 + (wI6 (Int.tdiv (min (max n (0 : Int)) (16777216 : Int)) (32 : Int))).toNat) ((x1.map qaC).take (min (x1.map qaC).length ((wI6 ((wI6 ((wI6 (Int.tdiv (min (max n (0 : Int)) (16777216 : Int)) (32 : Int))) + (x1.length : Int))) + (1 : Int))).toNat - (wI6 (Int.tdiv (min (max n (0 : Int)) (16777216 : Int)) (32 : Int))).toNat))) = (qeV (List.replicate (wI6 ((wI6 ((wI6 (Int.tdiv (min (max n (0 : Int)) (16777216 : Int)) (32 : Int))) + (x1.length : Int))) + (1 : Int))).toNat ((0 : Int) : Int)) (0 + (wI6 (Int.tdiv (min (max n (0 : Int)) (16777216 : Int)) (32 : Int))).toNat) ((wI6 ((wI6 ((wI6 (Int.tdiv (min (max n (0 : Int)) (16777216 : Int)) (32 : Int))) + (x1.length : Int))) + (1 : Int))).toNat - (wI6 (Int.tdiv (min (max n (0 : Int)) (16777216 : Int)) (32 : Int))).toNat) x1).map qaC) <| aC (by rw [qeF] : ((min (x1.map qaC).length ((wI6 ((wI6 ((wI6 (Int.tdiv (min (max n (0 : Int)) (16777216 : Int)) (32 : Int))) + (x1.length : Int))) + (1 : Int))).toNat - (wI6 (Int.tdiv (min (max n (0 : Int)) (16777216 : Int)) (32 : Int))).toNat) : Nat) : Int) = ((min x1.length ((wI6 ((wI6 ((wI6 (Int.tdiv (min (max n (0 : Int)) (16777216 : Int)) (32 : Int))) + (x1.length : Int))) + (1 : Int))).toNat - (wI6 (Int.tdiv (min (max n (0 : Int)) (16777216 : Int)) (32 : Int))).toNat) : Nat) : Int)) <| aC h7 <| aC r0 <| aC (by simp : (wI6 ((wI6 ((wI6 (Int.tdiv (min (max n (0 : Int)) (16777216 : Int)) (32 : Int))) + (x1.length : Int))) + (1 : Int))).toNat = (qeV (List.replicate (wI6 ((wI6 ((wI6 (Int.tdiv (min (max n (0 : Int)) (16777216 : Int)) (32 : Int))) + (x1.length : Int))) + (1 : Int))).toNat ((0 : Int) : Int)) (0 + (wI6 (Int.tdiv (min (max n (0 : Int)) (16777216 : Int)) (32 : Int))).toNat) ((wI6 ((wI6 ((wI6 (Int.tdiv (min (max n (0 : Int)) (16777216 : Int)) (32 : Int))) + (x1.length : Int))) + (1 : Int))).toNat - (wI6 (Int.tdiv (min (max n (0 : Int)) (16777216 : Int)) (32 : Int))).toNat) x1).length) <| aN) (ih _ _ h cx hn)
  ·obtain ⟨x8, h9, h⟩ := qaH h
   have h := oinj h; subst h
   exact wkR [rg1, rgG [oo, opI (.call [[1]] [(tl 1 a qaC)] (tl 1 x1 qaC)), oo], rgG [oo, opI (.ln (x1.length : Int)), oo], bFa, rg4, rg6, rgG [oo, oo, opI (.ln (x1.length : Int)), oo, oo, opI (.mk (qaC (0 : Int)) ((List.replicate (wI6 ((wI6 ((wI6 (Int.tdiv (min (max n (0 : Int)) (16777216 : Int)) (32 : Int))) + (x1.length : Int))) + (1 : Int))).toNat ((0 : Int) : Int)).map qaC)), oo], rgG [oo, oo, opI (.slR ((wI6 (Int.tdiv (min (max n (0 : Int)) (16777216 : Int)) (32 : Int))).toNat) ((wI6 ((wI6 ((wI6 (Int.tdiv (min (max n (0 : Int)) (16777216 : Int)) (32 : Int))) + (x1.length : Int))) + (1 : Int))).toNat) (0 + (wI6 (Int.tdiv (min (max n (0 : Int)) (16777216 : Int)) (32 : Int))).toNat) ((wI6 ((wI6 ((wI6 (Int.tdiv (min (max n (0 : Int)) (16777216 : Int)) (32 : Int))) + (x1.length : Int))) + (1 : Int))).toNat - (wI6 (Int.tdiv (min (max n (0 : Int)) (16777216 : Int)) (32 : Int))).toNat)), oo, opI (.cp (x1.map qaC) ((qeV (List.replicate (wI6 ((wI6 ((wI6 (Int.tdiv (min (max n (0 : Int)) (16777216 : Int)) (32 : Int))) + (x1.length : Int))) + (1 : Int))).toNat ((0 : Int) : Int)) (0 + (wI6 (Int.tdiv (min (max n (0 : Int)) (16777216 : Int)) (32 : Int))).toNat) ((wI6 ((wI6 ((wI6 (Int.tdiv (min (max n (0 : Int)) (16777216 : Int)) (32 : Int))) + (x1.length : Int))) + (1 : Int))).toNat - (wI6 (Int.tdiv (min (max n (0 : Int)) (16777216 : Int)) (32 : Int))).toNat) x1).map qaC) ((min x1.length ((wI6 ((wI6 ((wI6 (Int.tdiv (min (max n (0 : Int)) (16777216 : Int)) (32 : Int))) + (x1.length : Int))) + (1 : Int))).toNat - (wI6 (Int.tdiv (min (max n (0 : Int)) (16777216 : Int)) (32 : Int))).toNat) : Nat) : Int))], rg2, bFa, rgG [oo, .snap 59 (max 0 (0 + (wI6 ((wI6 ((wI6 (Int.tdiv (min (max n (0 : Int)) (16777216 : Int)) (32 : Int))) + (x1.length : Int))) + (1 : Int))).toNat)) ((qeV (List.replicate (wI6 ((wI6 ((wI6 (Int.tdiv (min (max n (0 : Int)) (16777216 : Int)) (32 : Int))) + (x1.length : Int))) + (1 : Int))).toNat ((0 : Int) : Int)) (0 + (wI6 (Int.tdiv (min (max n (0 : Int)) (16777216 : Int)) (32 : Int))).toNat) ((wI6 ((wI6 ((wI6 (Int.tdiv (min (max n (0 : Int)) (16777216 : Int)) (32 : Int))) + (x1.length : Int))) + (1 : Int))).toNat - (wI6 (Int.tdiv (min (max n (0 : Int)) (16777216 : Int)) (32 : Int))).toNat) x1).map qaC), opI (.call [[1]] [(TV.c (T.sl 1 ((qeV (List.replicate (wI6 ((wI6 ((wI6 (Int.tdiv (min (max n (0 : Int)) (16777216 : Int)) (32 : Int))) + (x1.length : Int))) + (1 : Int))).toNat ((0 : Int) : Int)) (0 + (wI6 (Int.tdiv (min (max n (0 : Int)) (16777216 : Int)) (32 : Int))).toNat) ((wI6 ((wI6 ((wI6 (Int.tdiv (min (max n (0 : Int)) (16777216 : Int)) (32 : Int))) + (x1.length : Int))) + (1 : Int))).toNat - (wI6 (Int.tdiv (min (max n (0 : Int)) (16777216 : Int)) (32 : Int))).toNat) x1).map qaC)))] (tl 1 x8 qaC)), oo]] hn (aC (qaU h2) <| aC (qaX x1 qaC) <| aC h3 <| aC (qaX x1 qaC) <| aC h4.1 <| aC h4.2.1 <| aC h4.2.2 <| aC (qgM _ _ _ : List.replicate (wI6 ((wI6 ((wI6 (Int.tdiv (min (max n (0 : Int)) (16777216 : Int)) (32 : Int))) + (x1.length : Int))) + (1 : Int))).toNat (qaC (0 : Int)) = (List.replicate (wI6 ((wI6 ((wI6 (Int.tdiv (min (max n (0 : Int)) (16777216 : Int)) (32 : Int))) + (x1.length : Int))) + (1 : Int))).toNat ((0 : Int) : Int)).map qaC) <| aC (⟨h5.1, rfl⟩ : 0 ≤ (wI6 (Int.tdiv (min (max n (0 : Int)) (16777216 : Int)) (32 : Int))) ∧ (wI6 (Int.tdiv (min (max n (0 : Int)) (16777216 : Int)) (32 : Int))).toNat = (wI6 (Int.tdiv (min (max n (0 : Int)) (16777216 : Int)) (32 : Int))).toNat) <| aC (rfl : (wI6 ((wI6 ((wI6 (Int.tdiv (min (max n (0 : Int)) (16777216 : Int)) (32 : Int))) + (x1.length : Int))) + (1 : Int))).toNat = (wI6 ((wI6 ((wI6 (Int.tdiv (min (max n (0 : Int)) (16777216 : Int)) (32 : Int))) + (x1.length : Int))) + (1 : Int))).toNat) <| aC h5.2.1 <| aC h5.2.2.1 <| aC h5.2.2.2 <| aC (rfl : 0 + (wI6 (Int.tdiv (min (max n (0 : Int)) (16777216 : Int)) (32 : Int))).toNat = (0 + (wI6 (Int.tdiv (min (max n (0 : Int)) (16777216 : Int)) (32 : Int))).toNat)) <| aC (rfl : (wI6 ((wI6 ((wI6 (Int.tdiv (min (max n (0 : Int)) (16777216 : Int)) (32 : Int))) + (x1.length : Int))) + (1 : Int))).toNat - (wI6 (Int.tdiv (min (max n (0 : Int)) (16777216 : Int)) (32 : Int))).toNat = ((wI6 ((wI6 ((wI6 (Int.tdiv (min (max n (0 : Int)) (16777216 : Int)) (32 : Int))) + (x1.length : Int))) + (1 : Int))).toNat - (wI6 (Int.tdiv (min (max n (0 : Int)) (16777216 : Int)) (32 : Int))).toNat)) <| aC (rfl : x1.map qaC = x1.map qaC) <| aC (qt9 _ _ _ _ _ h6 : qbW ((List.replicate (wI6 ((wI6 ((wI6 (Int.tdiv (min (max n (0 : Int)) (16777216 : Int)) (32 : Int))) + (x1.length : Int))) + (1 : Int))).toNat ((0 : Int) : Int)).map qaC) (0 + (wI6 (Int.tdiv (min (max n (0 : Int)) (16777216 : Int)) (32 : Int))).toNat) ((x1.map qaC).take (min (x1.map qaC).length ((wI6 ((wI6 ((wI6 (Int.tdiv (min (max n (0 : Int)) (16777216 : Int)) (32 : Int))) + (x1.length : Int))) + (1 : Int))).toNat - (wI6 (Int.tdiv (min (max n (0 : Int)) (16777216 : Int)) (32 : Int))).toNat))) = (qeV (List.replicate (wI6 ((wI6 ((wI6 (Int.tdiv (min (max n (0 : Int)) (16777216 : Int)) (32 : Int))) + (x1.length : Int))) + (1 : Int))).toNat ((0 : Int) : Int)) (0 + (wI6 (Int.tdiv (min (max n (0 : Int)) (16777216 : Int)) (32 : Int))).toNat) ((wI6 ((wI6 ((wI6 (Int.tdiv (min (max n (0 : Int)) (16777216 : Int)) (32 : Int))) + (x1.length : Int))) + (1 : Int))).toNat - (wI6 (Int.tdiv (min (max n (0 : Int)) (16777216 : Int)) (32 : Int))).toNat) x1).map qaC) <| aC (by rw [qeF] : ((min (x1.map qaC).length ((wI6 ((wI6 ((wI6 (Int.tdiv (min (max n (0 : Int)) (16777216 : Int)) (32 : Int))) + (x1.length : Int))) + (1 : Int))).toNat - (wI6 (Int.tdiv (min (max n (0 : Int)) (16777216 : Int)) (32 : Int))).toNat) : Nat) : Int) = ((min x1.length ((wI6 ((wI6 ((wI6 (Int.tdiv (min (max n (0 : Int)) (16777216 : Int)) (32 : Int))) + (x1.length : Int))) + (1 : Int))).toNat - (wI6 (Int.tdiv (min (max n (0 : Int)) (16777216 : Int)) (32 : Int))).toNat) : Nat) : Int)) <| aC h7 <| aC (qbJ _ _ _ (by simp) : (((qeV (List.replicate (wI6 ((wI6 ((wI6 (Int.tdiv (min (max n (0 : Int)) (16777216 : Int)) (32 : Int))) + (x1.length : Int))) + (1 : Int))).toNat ((0 : Int) : Int)) (0 + (wI6 (Int.tdiv (min (max n (0 : Int)) (16777216 : Int)) (32 : Int))).toNat) ((wI6 ((wI6 ((wI6 (Int.tdiv (min (max n (0 : Int)) (16777216 : Int)) (32 : Int))) + (x1.length : Int))) + (1 : Int))).toNat - (wI6 (Int.tdiv (min (max n (0 : Int)) (16777216 : Int)) (32 : Int))).toNat) x1).map qaC).drop 0).take ((wI6 ((wI6 ((wI6 (Int.tdiv (min (max n (0 : Int)) (16777216 : Int)) (32 : Int))) + (x1.length : Int))) + (1 : Int))).toNat) = (qeV (List.replicate (wI6 ((wI6 ((wI6 (Int.tdiv (min (max n (0 : Int)) (16777216 : Int)) (32 : Int))) + (x1.length : Int))) + (1 : Int))).toNat ((0 : Int) : Int)) (0 + (wI6 (Int.tdiv (min (max n (0 : Int)) (16777216 : Int)) (32 : Int))).toNat) ((wI6 ((wI6 ((wI6 (Int.tdiv (min (max n (0 : Int)) (16777216 : Int)) (32 : Int))) + (x1.length : Int))) + (1 : Int))).toNat - (wI6 (Int.tdiv (min (max n (0 : Int)) (16777216 : Int)) (32 : Int))).toNat) x1).map qaC) <| aC (rfl : (max 0 (0 + (wI6 ((wI6 ((wI6 (Int.tdiv (min (max n (0 : Int)) (16777216 : Int)) (32 : Int))) + (x1.length : Int))) + (1 : Int))).toNat)) = (max 0 (0 + (wI6 ((wI6 ((wI6 (Int.tdiv (min (max n (0 : Int)) (16777216 : Int)) (32 : Int))) + (x1.length : Int))) + (1 : Int))).toNat))) <| aC (qaU h9) <| aN)
theorem zkU {K} (ih : q0S K) {cx} (hn : cx.n = 61) {r28 shift low i} {r} (h : qe3 (K + 1) (.c1 r28 shift low i) = some r) : q0R cx (.c1 r28 shift low i) r := by
 rw [qe3] at h
 rcases qaQ h with ⟨h1, h⟩ | ⟨h1, h⟩
 ·obtain ⟨x2, h3, h⟩ := qaH h
  obtain ⟨h4, h⟩ := qbI h
  obtain ⟨x5, h6, h⟩ := qaH h
  obtain ⟨h7, h⟩ := qbI h
  exact wkG [.go, rg4, bTr, rgG [oo, oo, .op .ir, opI (.ld (qaC x2)), oo], rgG [oo, oo, oo, oo, .op .dv, oo, oo, .op .ir, opI (.st (qaC x5) ((r28.set (i.toNat) (bits .or .u32 (qhT .u32 x2 shift) low)).map qaC))], rgG [oo, oo, oo, .op .dv, oo], rg3, .pre [.rl 7 0 (r28.set (i.toNat) (bits .or .u32 (qhT .u32 x2 shift) low)).length, .keep [6,7,8,9] [28]]] hn (aC h1 <| aC (qa1 h3) <| aC (qcB h3 (by simp) : i < ((r28.length : Nat) : Int)) <| aC (qcA qaC h3 : (r28.map qaC)[(0 + i.toNat)]? = some (qaC x2)) <| aC h4 <| aC (qa1 h6) <| aC (qcB h6 (by simp) : i < ((r28.length : Nat) : Int)) <| aC (qcA qaC h6 : (r28.map qaC)[(0 + i.toNat)]? = some (qaC x5)) <| aC (qc4 _ _ (bits .or .u32 (qhT .u32 x2 shift) low) _ : (r28.map qaC).set (0 + i.toNat) (qbW (qaC x5) 0 [(T.int .u32 (bits .or .u32 (qhT .u32 x2 shift) low))]) = (r28.set (i.toNat) (bits .or .u32 (qhT .u32 x2 shift) low)).map qaC) <| aC (Nat.zero_le _ : 0 ≤ (0 + i.toNat)) <| aC h7 <| aC r0 <| aC (by simp : r28.length = (r28.set (i.toNat) (bits .or .u32 (qhT .u32 x2 shift) low)).length) <| aN) (ih _ _ h cx hn)
 ·obtain ⟨x2, h3, h⟩ := qaH h
  have h := oinj h; subst h
  exact wkR [.go, rg4, bFa, rgG [oo, .snap 59 (max 0 (0 + r28.length)) (r28.map qaC), opI (.call [[1]] [(tl 1 r28 qaC)] (tl 1 x2 qaC)), oo]] hn (aC h1 <| aC (qbJ _ _ _ (by simp) : ((r28.map qaC).drop 0).take r28.length = r28.map qaC) <| aC (rfl : (max 0 (0 + r28.length)) = (max 0 (0 + r28.length))) <| aC (qaU h3) <| aN)
theorem qwZ : ∀ K : Nat, q0S K
 | 0, c, r, h => by rw [qe3] at h; cases h
 | K + 1, .c0 .., r, h => fun cx hn => zkV (qwZ K) hn h
 | K + 1, .c1 .., r, h => fun cx hn => zkU (qwZ K) hn h
theorem qkV {K : Nat} {a : (List Int)} {n : Int} {r : (List Int)} (h : qtK K a n = some r) : qc5 prog 142 [(tl 1 a qaC), (ti .i64 n)] (tl 1 r qaC) :=
 qa0 [[1]] (by kernel_rfl) (by simp) fun cx hn => qwZ K (.c0 a n) r h cx hn
open Go.Proofs.Try (prog)
inductive qsQ where
 | c0 (a : qaB) (b : qaB)
def qmX : Nat → qsQ → Option qaB
 | 0, _ => none
 | K + 1, .c0 a b =>
  bif (a.Neg == b.Neg) then
   (q0X K a.Abs b.Abs).bind fun x2 =>
   (qh1 K a.Neg x2).bind fun x4 =>
   some x4
  else
   (qwX K a.Abs b.Abs).bind fun x2 =>
   bif x2.2 then
    (qh1 K a.Neg x2.1).bind fun x5 =>
    some x5
   else
    (qwX K b.Abs a.Abs).bind fun x5 =>
    (qh1 K b.Neg x5.1).bind fun x7 =>
    some x7
def qiH (K : Nat) (a : qaB) (b : qaB) : Option qaB := qmX K (.c0 a b)
noncomputable def zfI : Code := qbQ prog 54
noncomputable def ziM : qsQ → List Fr
 | .c0 .. => [.code zfI]
def zmC : qsQ → St
 | .c0 a b => St.init [(TV.agg (qaA a)), (TV.agg (qaA b))]
def za4 (cx : Cx) (c : qsQ) (r : qaB) : Prop := Wk prog cx (qc2 prog 54 [[0,1]] (TV.agg (qaA r))) (ziM c) .normal (zmC c)
abbrev za5 (K : Nat) : Prop := ∀ c r, qmX K c = some r → ∀ cx : Cx, cx.n = 47 → za4 cx c r
theorem zmD {K} (_ : za5 K) {cx} (hn : cx.n = 47) {a b} {r} (h : qmX (K + 1) (.c0 a b) = some r) : za4 cx (.c0 a b) r := by
 rw [qmX] at h
 rcases qaQ h with ⟨h1, h⟩ | ⟨h1, h⟩
 ·obtain ⟨x2, h3, h⟩ := qaH h
  obtain ⟨x4, h5, h⟩ := qaH h
  have h := oinj h; subst h
  exact wkR [rg3, rg5, bTr, .draw [.p, .p, .p, .p, .p, .p, (.call [[1], [1]] [(TV.c (T.sl 1 (a.Abs.map qaC))), (TV.c (T.sl 1 (b.Abs.map qaC)))] (tl 1 x2 qaC))] [opI (.call [[0], [1]] [(TV.c (T.bool a.Neg)), (tl 1 x2 qaC)] (TV.agg (qaA x4))), .op .p]] hn (aC h1 <| aC (zcG h3) <| aC (qf3 h5) <| aN)
 ·obtain ⟨x2, h3, h⟩ := qaH h
  rcases qaQ h with ⟨h4, h⟩ | ⟨h4, h⟩
  ·obtain ⟨x5, h6, h⟩ := qaH h
   have h := oinj h; subst h
   exact wkR [rg3, rg5, bFa, rgG [oo, oo, oo, oo, opI (.call [[1], [1]] [(TV.c (T.sl 1 (a.Abs.map qaC))), (TV.c (T.sl 1 (b.Abs.map qaC)))] (TV.tup [(false, [(T.sl 1 (x2.1.map qaC))]), (false, [(T.bool x2.2)])])), oo, oo, oo, oo, oo], rg1, bTr, rgG [oo, oo, oo, opI (.call [[0], [1]] [(TV.c (T.bool a.Neg)), (tl 1 x2.1 qaC)] (TV.agg (qaA x5))), oo]] hn (aC h1 <| aC (qtJ h3) <| aC h4 <| aC (qf3 h6) <| aN)
  ·obtain ⟨x5, h6, h⟩ := qaH h
   obtain ⟨x7, h8, h⟩ := qaH h
   have h := oinj h; subst h
   exact wkR [rg3, rg5, bFa, rgG [oo, oo, oo, oo, opI (.call [[1], [1]] [(TV.c (T.sl 1 (a.Abs.map qaC))), (TV.c (T.sl 1 (b.Abs.map qaC)))] (TV.tup [(false, [(T.sl 1 (x2.1.map qaC))]), (false, [(T.bool x2.2)])])), oo, oo, oo, oo, oo], rg1, bFa, rgG [oo, oo, oo, oo, opI (.call [[1], [1]] [(TV.c (T.sl 1 (b.Abs.map qaC))), (TV.c (T.sl 1 (a.Abs.map qaC)))] (TV.tup [(false, [(T.sl 1 (x5.1.map qaC))]), (false, [(T.bool x5.2)])])), oo, oo, oo, oo, oo], rgG [oo, oo, oo, opI (.call [[0], [1]] [(TV.c (T.bool b.Neg)), (tl 1 x5.1 qaC)] (TV.agg (qaA x7))), oo]] hn (aC h1 <| aC (qtJ h3) <| aC h4 <| aC (qtJ h6) <| aC (qf3 h8) <| aN)
theorem q38 : ∀ K : Nat, za5 K
 | 0, c, r, h => by rw [qmX] at h; cases h
 | K + 1, .c0 .., r, h => fun cx hn => zmD (q38 K) hn h
theorem qfA {K : Nat} {a : qaB} {b : qaB} {r : qaB} (h : qiH K a b = some r) : qc5 prog 54 [(TV.agg (qaA a)), (TV.agg (qaA b))] (TV.agg (qaA r)) :=
 qa0 [[0,1]] (by kernel_rfl) (by simp) fun cx hn => q38 K (.c0 a b) r h cx hn
open Go.Proofs.Try (prog)
inductive qsM where
 | c0 (a : qaB) (n : Int)
def qmT : Nat → qsM → Option qaB
 | 0, _ => none
 | K + 1, .c0 a n =>
  (qtK K a.Abs n).bind fun x1 =>
  (qh1 K a.Neg x1).bind fun x3 =>
  some x3
def q05 (K : Nat) (a : qaB) (n : Int) : Option qaB := qmT K (.c0 a n)
noncomputable def zfC : Code := qbQ prog 103
noncomputable def ziC : qsM → List Fr
 | .c0 .. => [.code zfC]
def zl1 : qsM → St
 | .c0 a n => St.init [(TV.agg (qaA a)), (ti .i64 n)]
def zaV (cx : Cx) (c : qsM) (r : qaB) : Prop := Wk prog cx (qc2 prog 103 [[0,1]] (TV.agg (qaA r))) (ziC c) .normal (zl1 c)
abbrev zaW (K : Nat) : Prop := ∀ c r, qmT K c = some r → ∀ cx : Cx, cx.n = 12 → zaV cx c r
theorem zl3 {K} (_ : zaW K) {cx} (hn : cx.n = 12) {a n} {r} (h : qmT (K + 1) (.c0 a n) = some r) : zaV cx (.c0 a n) r := by
 rw [qmT] at h
 obtain ⟨x1, h2, h⟩ := qaH h
 obtain ⟨x3, h4, h⟩ := qaH h
 have h := oinj h; subst h
 exact wkR [rg2, .draw [.p, .p, .p, .p, .p, (.call [[1], [0]] [(TV.c (T.sl 1 (a.Abs.map qaC))), (ti .i64 n)] (tl 1 x1 qaC))] [opI (.call [[0], [1]] [(TV.c (T.bool a.Neg)), (tl 1 x1 qaC)] (TV.agg (qaA x3))), .op .p]] hn (aC (qkV h2) <| aC (qf3 h4) <| aN)
theorem q34 : ∀ K : Nat, zaW K
 | 0, c, r, h => by rw [qmT] at h; cases h
 | K + 1, .c0 .., r, h => fun cx hn => zl3 (q34 K) hn h
theorem zc9 {K : Nat} {a : qaB} {n : Int} {r : qaB} (h : q05 K a n = some r) : qc5 prog 103 [(TV.agg (qaA a)), (ti .i64 n)] (TV.agg (qaA r)) :=
 qa0 [[0,1]] (by kernel_rfl) (by simp) fun cx hn => q34 K (.c0 a n) r h cx hn
theorem qeB {a : List Int} {i : Nat} (h : i < a.length) : val (a.take (i + 1)) = val (a.take i) + 4294967296 ^ i * a[i] := by
  rw [List.take_add_one, List.getElem?_eq_getElem h, Option.toList_some, qkQ, List.length_take, Nat.min_eq_left (by omega)]
  simp
theorem q1U {x y c : Int} (hx : 0 ≤ x ∧ x < 4294967296) (hy : 0 ≤ y ∧ y < 4294967296) (hc : 0 ≤ c ∧ c < 4294967296) : Ev (fun K => qh2 K x y c) ((x + y + c) % 4294967296, (x + y + c) / 4294967296) := by
  unfold qh2
  exact qaG (qnO hx hy hc) (qaT _)
theorem q54 {a b : List Int} (ha : Dig a) (hs : a.length < 4611686018427387900) : ∀ (m i : Nat) (c : Int) (r : List Int), i + m = a.length → b.length ≤ i → (c = 0 ∨ c = 1) → Dig r → r.length = a.length + 1 →
    val r + 4294967296 ^ i * c = val (a.take i) + val b → (∀ j, i ≤ j → j < r.length → r[j]? = some 0) → Ev (fun K => qcQ K (.c2 c r a i)) (digs (val a + val b))
  | 0, i, c, r, hi, hb, hc, hr, hl, hv, hz => by
    refine qaJ ?_
    simp only [qcQ]
    refine ev_f (by simp; omega) (qa3 (qbN (by omega)) ?_)
    have hia : a.length = i := by omega
    have h1 := qb2 (qpK hr a.length (x := c) (by omega)) (by simp; omega)
    have h2 := hz a.length (by omega) (by omega)
    rw [List.getElem?_eq_getElem (by omega)] at h2
    rw [qqQ (by omega), Option.some.inj h2, Int.sub_zero, hia, hv, List.take_of_length_le (Nat.le_of_eq hia)] at h1
    rw [Int.toNat_natCast, hia]
    exact qaG h1 (qaT _)
  | m + 1, i, c, r, hi, hb, hc, hr, hl, hv, hz => by
    refine qaJ ?_
    simp only [qcQ]
    have hia : i < a.length := by omega
    have hx := qe0 ha hia
    refine ev_t (by simp; omega) (qa3 (qbN hia) (qaG (q1U hx (by decide) (by omega)) (qa3 (qbN (by omega)) ?_)))
    simp only [Int.add_zero]
    rw [Int.toNat_natCast, qbR (by omega), show (i : Int) + 1 = ((i + 1 : Nat) : Int) by omega]
    refine q54 ha hs m (i + 1) _ _ (by omega) (by omega) (by omega) (qpK hr i (by omega)) (by simpa using hl) ?_ (fun j hj hjl => ?_)
    · have h2 := hz i (by omega) (by omega)
      rw [List.getElem?_eq_getElem (by omega)] at h2
      rw [qqQ (by omega), Option.some.inj h2, qeB hia, Int.pow_succ]
      have e := Int.emod_add_mul_ediv (a[i] + c) 4294967296
      generalize (a[i] + c) % 4294967296 = p at *
      generalize (a[i] + c) / 4294967296 = q at *
      generalize (4294967296 : Int) ^ i = A at *
      grind
    · rw [List.getElem?_set_ne (by omega)]; exact hz j (by omega) (by simpa using hjl)
theorem qy5 {a b : List Int} (ha : Dig a) (hb : Dig b) (hab : b.length ≤ a.length) (hs : a.length < 4611686018427387900) : ∀ (m i : Nat) (c : Int) (r : List Int), i + m = b.length → (c = 0 ∨ c = 1) → Dig r → r.length = a.length + 1 →
    val r + 4294967296 ^ i * c = val (a.take i) + val (b.take i) → (∀ j, i ≤ j → j < r.length → r[j]? = some 0) → Ev (fun K => qcQ K (.c1 c r a b b b.length i)) (digs (val a + val b))
  | 0, i, c, r, hi, hc, hr, hl, hv, hz => by
    refine qaJ ?_
    simp only [qcQ]
    refine ev_f (by simp; omega) ?_
    rw [List.take_of_length_le (l := b) (by omega)] at hv
    have hbi : b.length = i := by omega
    rw [hbi]
    exact q54 ha hs (a.length - i) i c r (by omega) (by omega) hc hr hl hv hz
  | m + 1, i, c, r, hi, hc, hr, hl, hv, hz => by
    refine qaJ ?_
    simp only [qcQ]
    have hib : i < b.length := by omega
    have hia : i < a.length := by omega
    have hx := qe0 ha hia
    have hy := qe0 hb hib
    refine ev_t (by simp; omega) (qa3 (qbN hib) (qa3 (qbN hia) (qaG (q1U hx hy (by omega)) (qa3 (qbN (by omega)) ?_))))
    simp only
    rw [Int.toNat_natCast, qbR (by omega), show (i : Int) + 1 = ((i + 1 : Nat) : Int) by omega]
    refine qy5 ha hb hab hs m (i + 1) _ _ (by omega) (by omega) (qpK hr i (by omega)) (by simpa using hl) ?_ (fun j hj hjl => ?_)
    · have h2 := hz i (by omega) (by omega)
      rw [List.getElem?_eq_getElem (by omega)] at h2
      rw [qqQ (by omega), Option.some.inj h2, qeB hia, qeB hib, Int.pow_succ]
      have e := Int.emod_add_mul_ediv (a[i] + b[i] + c) 4294967296
      generalize (a[i] + b[i] + c) % 4294967296 = p at *
      generalize (a[i] + b[i] + c) / 4294967296 = q at *
      generalize (4294967296 : Int) ^ i = A at *
      grind
    · rw [List.getElem?_set_ne (by omega)]; exact hz j (by omega) (by simpa using hjl)
theorem zk7 {a b : List Int} (ha : Dig a) (hb : Dig b) (hs : a.length ≤ 34359738360) (ht : b.length ≤ 34359738360) : Ev (fun K => q0X K a b) (digs (val a + val b)) := by
  refine qaJ ?_
  simp only [q0X, qcQ]
  have va := qf1 (qbE ha)
  have vb := qf1 (qbE hb)
  have la := qeX ha
  have lb := qeX hb
  refine qaG (qb2 ha (by omega)) (qaG (qb2 hb (by omega)) (zu8 (fun h => ?_) (fun h => ?_)))
  · have h := of_decide_eq_true h
    rw [qbR (by omega)]
    refine qeZ (by omega) ?_
    have := qy5 (qeG (val b)) (qeG (val a)) (by omega) (by omega) _ 0 0 (List.replicate ((digs (val b)).length + 1) 0) (Nat.zero_add _) (.inl rfl) (q8C (by decide)) (by simp) (by rw [q0L]; simp) (fun j _ hj => by rw [List.getElem?_replicate, if_pos (by simpa using hj)])
    rw [va, vb, Int.add_comm] at this
    rw [show (((digs (val b)).length : Int) + 1).toNat = (digs (val b)).length + 1 by omega]
    exact this
  · have h := of_decide_eq_false h
    rw [qbR (by omega)]
    refine qeZ (by omega) ?_
    have := qy5 (qeG (val a)) (qeG (val b)) (by omega) (by omega) _ 0 0 (List.replicate ((digs (val a)).length + 1) 0) (Nat.zero_add _) (.inl rfl) (q8C (by decide)) (by simp) (by rw [q0L]; simp) (fun j _ hj => by rw [List.getElem?_replicate, if_pos (by simpa using hj)])
    rw [va, vb] at this
    rw [show (((digs (val a)).length : Int) + 1).toNat = (digs (val a)).length + 1 by omega]
    exact this
def wd (x : Int) : BitVec 32 := BitVec.ofInt 32 x
theorem zqD {x : Int} (h : 0 ≤ x ∧ x < 4294967296) : (wd x).toNat = x.toNat := by
  unfold wd; rw [BitVec.toNat_ofInt]; omega
theorem zr8 (v : BitVec 32) : wU3 (v.toNat : Int) = v.toNat := by
  rw [q2K]; have := v.isLt; omega
theorem znY {x y : Int} : bits .or .u32 x y = ((wd x ||| wd y).toNat : Int) := zr8 _
theorem zq5 {x y : Int} : bits .and .u32 x y = ((wd x &&& wd y).toNat : Int) := zr8 _
theorem znX {x y : Int} : bits .xor .u32 x y = ((wd x ^^^ wd y).toNat : Int) := zr8 _
theorem q8J (v : BitVec 32) : wd (v.toNat : Int) = v := by
  apply BitVec.eq_of_toNat_eq
  rw [zqD ⟨by omega, by have := v.isLt; omega⟩]; omega
theorem zj1 {x y : Int} {s : Nat} (hx : 0 ≤ x ∧ x < 4294967296) (hd : x % 2 ^ s = 0) (hy : 0 ≤ y ∧ y < 2 ^ s) (hs : s < 32) : bits .or .u32 x y = x + y := by
  have hp : (2 : Int) ^ s ≤ 2 ^ 31 := by
    have : (2 : Nat) ^ s ≤ 2 ^ 31 := Nat.pow_le_pow_right (by decide) (by omega)
    exact_mod_cast this
  rw [znY, BitVec.toNat_or, zqD hx, zqD (by omega)]
  have h1 : (x.toNat : Int) = x := by omega
  have h2 : (y.toNat : Int) = y := by omega
  have h3 : x.toNat = 2 ^ s * (x.toNat / 2 ^ s) := by
    have h4 : x.toNat % 2 ^ s = 0 := by
      have : ((x.toNat % 2 ^ s : Nat) : Int) = 0 := by rw [Int.natCast_emod, h1]; simpa using hd
      exact_mod_cast this
    have := Nat.div_add_mod x.toNat (2 ^ s)
    omega
  have h5 : y.toNat < 2 ^ s := by
    have : ((y.toNat : Nat) : Int) < ((2 ^ s : Nat) : Int) := by rw [h2]; simpa using hy.2
    exact_mod_cast this
  rw [h3, ← Nat.two_pow_add_eq_or_of_lt h5]
  rw [← h3]; omega
theorem zw3 (v : BitVec 32) : ((v.toNat : Int) / 2147483648) = if v.msb then 1 else 0 := by
  rw [BitVec.msb_eq_decide]
  have := v.isLt
  by_cases h : 2 ^ (32 - 1) ≤ v.toNat
  · simp only [h, decide_true, if_true]; omega
  · simp only [h, decide_false]; simp; omega
theorem zr7 {x : Int} (h : 0 ≤ x ∧ x < 4294967296) : (wd x).msb = decide (2147483648 ≤ x) := by
  rw [BitVec.msb_eq_decide, zqD h, decide_eq_decide]; omega
theorem qyL {x y b : Int} (hx : 0 ≤ x ∧ x < 4294967296) (hy : 0 ≤ y ∧ y < 4294967296) (hb : b = 0 ∨ b = 1) :
    Ev (fun K => qn4 K x y b) ((x - y - b) % 4294967296, if x - y - b < 0 then 1 else 0) := by
  refine qaJ ?_
  simp only [qn4, qh5, q2K]
  rw [show ((x - y) % 4294967296 - b) % 4294967296 = (x - y - b) % 4294967296 by omega]
  refine qeW (qaT _) ?_
  congr 1
  have hd : 0 ≤ (x - y - b) % 4294967296 ∧ (x - y - b) % 4294967296 < 4294967296 := by omega
  generalize hdd : (x - y - b) % 4294967296 = d at *
  rw [znY, zq5, zq5, znX, znX, znX, q8J, q8J, q8J, q8J, q8J, zoC (by decide) (by decide)]
  show _ / 2147483648 = _
  rw [zw3]
  have hall : ∀ v : BitVec 32, wd (if IntKind.signed .u32 then -1 else IntKind.max .u32) ^^^ v = ~~~v := by
    intro v
    have : wd (if IntKind.signed .u32 then -1 else IntKind.max .u32) = BitVec.allOnes 32 := by decide
    rw [this, BitVec.allOnes_xor]
  simp only [hall, BitVec.msb_or, BitVec.msb_and, BitVec.msb_not, BitVec.msb_xor, zr7 hx, zr7 hy, zr7 hd]
  by_cases h1 : 2147483648 ≤ x <;> by_cases h2 : 2147483648 ≤ y <;> by_cases h3 : 2147483648 ≤ d <;> simp [h1, h2, h3] <;> omega
theorem q5W {a b : List Int} (ha : Dig a) (hb : Dig b) (hba : val b ≤ val a) (hs : a.length < 4611686018427387904) (hlb : b.length ≤ a.length) : ∀ (m i : Nat) (c : Int) (r : List Int), i + m = a.length → (c = 0 ∨ c = 1) → Dig r → r.length = a.length →
    val r - 4294967296 ^ i * c = val (a.take i) - val (b.take i) → (∀ j, i ≤ j → j < r.length → r[j]? = some 0) → Ev (fun K => qdF K (.c1 r b c a a.length i)) (digs (val a - val b), true)
  | 0, i, c, r, hi, hc, hr, hl, hv, hz => by
    refine qaJ ?_
    simp only [qdF]
    refine ev_f (by simp; omega) ?_
    have h1 := qb2 hr (by omega)
    rw [List.take_of_length_le (by omega), List.take_of_length_le (by omega)] at hv
    have h2 := qlD hr
    rw [hl, show a.length = i by omega] at h2
    have hc0 : c = 0 := by
      rcases hc with h | h
      · exact h
      · subst h; omega
    subst hc0
    rw [Int.mul_zero, Int.sub_zero] at hv
    rw [hv] at h1
    exact qaG h1 (qaT _)
  | m + 1, i, c, r, hi, hc, hr, hl, hv, hz => by
    refine qaJ ?_
    simp only [qdF]
    have hia : i < a.length := by omega
    have hx := qe0 ha hia
    refine ev_t (by simp; omega) (qa3 (qbN hia) ?_)
    have next : ∀ y : Int, 0 ≤ y ∧ y < 4294967296 → val (b.take (i + 1)) = val (b.take i) + 4294967296 ^ i * y →
        Ev (fun K => qdF K (.c2 (r.set i ((a[i] - y - c) % 4294967296)) b (if a[i] - y - c < 0 then 1 else 0) a a.length i)) (digs (val a - val b), true) := by
      intro y hy he
      refine qaJ ?_
      simp only [qdF]
      rw [qbR (by omega), show (i : Int) + 1 = ((i + 1 : Nat) : Int) by omega]
      refine q5W ha hb hba hs hlb m (i + 1) _ _ (by omega) (by split <;> omega) (qpK hr i (by omega)) (by simpa using hl) ?_ (fun j hj hjl => ?_)
      · have h2 := hz i (by omega) (by omega)
        rw [List.getElem?_eq_getElem (by omega)] at h2
        rw [qqQ (by omega), Option.some.inj h2, qeB hia, he, Int.pow_succ]
        have e : (a[i] - y - c) % 4294967296 - 4294967296 * (if a[i] - y - c < 0 then 1 else 0) = a[i] - y - c := by split <;> omega
        generalize (a[i] - y - c) % 4294967296 = p at *
        generalize (if a[i] - y - c < 0 then (1 : Int) else 0) = q at *
        generalize (4294967296 : Int) ^ i = A at *
        grind
      · rw [List.getElem?_set_ne (by omega)]; exact hz j (by omega) (by simpa using hjl)
    by_cases hib : i < b.length
    · refine ev_t (by simpa using hib) (qa3 (qbN hib) (qaG (qyL hx (qe0 hb hib) hc) (qa3 (qbN (by omega)) ?_)))
      rw [Int.toNat_natCast]
      exact next _ (qe0 hb hib) (qeB hib)
    · refine ev_f (by simpa using hib) (qaG (qyL hx (by decide) hc) (qa3 (qbN (by omega)) ?_))
      rw [Int.toNat_natCast]
      exact next 0 (by decide) (by rw [List.take_of_length_le (by omega), List.take_of_length_le (by omega)]; simp)
theorem q5X {a b : List Int} (ha : Dig a) (hb : Dig b) (hs : a.length ≤ 34359738360) (ht : b.length ≤ 34359738360) : Ev (fun K => qwX K a b) (if val a < val b then ([], false) else (digs (val a - val b), true)) := by
  refine qaJ ?_
  simp only [qwX, qdF]
  have va := qf1 (qbE ha)
  have vb := qf1 (qbE hb)
  have la := qeX ha
  have lb := qeX hb
  have hc := qfX (val a) (val b)
  refine qaG (qpO ha hb (by omega) (by omega)) ?_
  by_cases h : val a < val b
  · rw [if_pos h]
    exact ev_t (by simp; omega) (qaT _)
  · rw [if_neg h]
    refine ev_f (by simp; omega) (qaG (qb2 ha (by omega)) (qaG (qb2 hb (by omega)) (qeZ (by omega) ?_)))
    have hlb : (digs (val b)).length ≤ (digs (val a)).length := by
      apply Nat.le_of_not_lt; intro hlt
      have := q0M (qyZ (val a)) (qyZ (val b)) hlt
      omega
    have := q5W (qeG (val a)) (qeG (val b)) (by omega) (by omega) hlb _ 0 0 (List.replicate (digs (val a)).length 0) (Nat.zero_add _) (.inl rfl) (q8C (by decide)) (by simp) (by rw [q0L]; simp) (fun j _ hj => by rw [List.getElem?_replicate, if_pos (by simpa using hj)])
    rw [va, vb] at this
    rw [Int.toNat_natCast]
    exact this
theorem qpQ {a b : qaB} (ha : Dig a.Abs) (hb : Dig b.Abs) (hs : a.Abs.length ≤ 34359738360) (ht : b.Abs.length ≤ 34359738360) : Ev (fun K => qiH K a b) (mkI (ival a + ival b)) := by
  refine qaJ ?_
  simp only [qiH, qmX]
  have na := qbE ha
  have nb := qbE hb
  obtain ⟨s, a⟩ := a
  obtain ⟨t, b⟩ := b
  simp only at ha hb hs ht na nb ⊢
  unfold ival
  by_cases h : s = t
  · subst h
    refine ev_t (by simp) (qaG (zk7 ha hb hs ht) (qaG (qeW (qh0 s (by omega)) ?_) (qaT _)))
    congr 1; cases s <;> simp; omega
  · refine ev_f (by simpa using h) (qaG (q5X ha hb hs ht) ?_)
    have e : s = !t := by cases s <;> cases t <;> simp at h ⊢
    by_cases hlt : val a < val b
    · simp only [if_pos hlt]
      have := q5X hb ha ht hs
      rw [if_neg (by omega)] at this
      refine ev_f rfl (qaG this (qaG (qeW (qh0 t (by omega)) ?_) (qaT _)))
      congr 1; subst e; cases t <;> simp <;> omega
    · simp only [if_neg hlt]
      refine ev_t rfl (qaG (qeW (qh0 s (by omega)) ?_) (qaT _))
      congr 1; subst e; cases t <;> simp <;> omega
theorem zoF {x l : Int} {s : Nat} (hx : 0 ≤ x ∧ x < 4294967296) (hl : 0 ≤ l ∧ l < 2 ^ s) (hs : s < 32) :
    ∃ d q : Int, bits .or .u32 (qhT .u32 x s) l = d ∧ qd2 .u32 x (32 - s) = q ∧ (0 ≤ d ∧ d < 4294967296) ∧ (0 ≤ q ∧ q < 2 ^ s) ∧ d + 4294967296 * q = x * 2 ^ s + l := by
  rw [zqI (by omega) (by show (s : Int) ≤ 32; omega), zoC (by omega) (by show (32 : Int) - s ≤ 32; omega), zvU, Int.toNat_natCast, show ((32 : Int) - s).toNat = 32 - s by omega]
  have hP : (0 : Int) < 2 ^ s := Int.pow_pos (by decide)
  have hQ : (0 : Int) < 2 ^ (32 - s) := Int.pow_pos (by decide)
  have hPQ : (2 : Int) ^ (32 - s) * 2 ^ s = 4294967296 := by rw [← Int.pow_add, show 32 - s + s = 32 by omega]; rfl
  have hmul : x * 2 ^ s % 4294967296 = x % 2 ^ (32 - s) * 2 ^ s := by rw [← hPQ, Int.mul_comm x, Int.mul_comm (2 ^ (32 - s)), Int.mul_emod_mul_of_pos _ _ hP, Int.mul_comm]
  have hm1 : 0 ≤ x % 2 ^ (32 - s) := Int.emod_nonneg _ (by omega)
  have hm2 : x % 2 ^ (32 - s) < 2 ^ (32 - s) := Int.emod_lt_of_pos _ hQ
  have hd1 : x % 2 ^ (32 - s) * 2 ^ s + 2 ^ s ≤ 4294967296 := by
    have := Int.mul_le_mul_of_nonneg_right (show x % 2 ^ (32 - s) + 1 ≤ 2 ^ (32 - s) by omega) (Int.le_of_lt hP)
    rw [hPQ, Int.add_mul, Int.one_mul] at this; exact this
  have hd0 : 0 ≤ x % 2 ^ (32 - s) * 2 ^ s := Int.mul_nonneg hm1 (Int.le_of_lt hP)
  rw [hmul, zj1 (s := s) ⟨hd0, by omega⟩ (Int.mul_emod_left _ _) hl hs]
  have hdiv := Int.emod_add_mul_ediv x (2 ^ (32 - s))
  refine ⟨_, _, rfl, rfl, ⟨by omega, by omega⟩, ⟨Int.ediv_nonneg hx.1 (by omega), ?_⟩, ?_⟩
  · exact Int.ediv_lt_of_lt_mul hQ (by rw [Int.mul_comm, hPQ]; exact hx.2)
  · rw [← hPQ]
    generalize x / 2 ^ (32 - s) = q at *
    generalize x % 2 ^ (32 - s) = r at *
    generalize (2 : Int) ^ s = P at *
    generalize (2 : Int) ^ (32 - s) = Q at *
    rw [← hdiv]
    grind
theorem q5Z {r0 : List Int} (h0 : Dig r0) {s : Nat} (hs1 : 0 < s) (hs : s < 32) (hl : r0.length < 4611686018427387904) (hlast : val r0 * 2 ^ s < 4294967296 ^ r0.length) : ∀ (m i : Nat) (l : Int) (r : List Int), i + m = r0.length → (0 ≤ l ∧ l < 2 ^ s) → Dig r → r.length = r0.length →
    val r + 4294967296 ^ i * l = 2 ^ s * val (r0.take i) + 4294967296 ^ i * val (r0.drop i) → (∀ j, i ≤ j → r[j]? = r0[j]?) → Ev (fun K => qe3 K (.c1 r s l i)) (digs (val r0 * 2 ^ s))
  | 0, i, l, r, hi, hlo, hr, hrl, hv, hz => by
    refine qaJ ?_
    simp only [qe3]
    refine ev_f (by simp; omega) ?_
    have h1 := qb2 hr (by omega)
    rw [List.take_of_length_le (by omega), List.drop_of_length_le (by omega), q6X, Int.mul_zero, Int.add_zero, Int.mul_comm (2 ^ s)] at hv
    have hp := qe2 i
    have hn := qbE hr
    rw [show r0.length = i by omega] at hlast
    have hl0 : l = 0 := by
      apply Classical.byContradiction; intro hne
      have := Int.mul_le_mul_of_nonneg_left (show 1 ≤ l by omega) (Int.le_of_lt hp)
      omega
    subst hl0
    rw [Int.mul_zero, Int.add_zero] at hv
    rw [hv] at h1
    exact qaG h1 (qaT _)
  | m + 1, i, l, r, hi, hlo, hr, hrl, hv, hz => by
    refine qaJ ?_
    simp only [qe3]
    have hir : i < r.length := by omega
    have hi0 : i < r0.length := by omega
    have hx := qe0 hr hir
    obtain ⟨d, q, e1, e2, hd, hq, e3⟩ := zoF hx hlo hs
    refine ev_t (by simp; omega) (qa3 (qbN hir) (qeZ (by omega) (qa3 (qbN hir) (qeZ (by rw [qbR (by omega)]; omega) ?_))))
    rw [qbR (x := (32 : Int) - s) (by omega), e1, e2, Int.toNat_natCast, qbR (by omega), show (i : Int) + 1 = ((i + 1 : Nat) : Int) by omega]
    refine q5Z h0 hs1 hs hl hlast m (i + 1) q _ (by omega) hq (qpK hr i hd) (by simpa using hrl) ?_ (fun j hj => ?_)
    · have e4 : r[i] = r0[i] := by
        have := hz i (Nat.le_refl _)
        rw [List.getElem?_eq_getElem hir, List.getElem?_eq_getElem hi0] at this
        exact Option.some.inj this
      rw [qqQ hir, qeB hi0, Int.pow_succ]
      rw [List.drop_eq_getElem_cons hi0, qpV] at hv
      rw [e4] at e3 ⊢
      generalize (4294967296 : Int) ^ i = A at *
      generalize (2 : Int) ^ s = P at *
      grind
    · rw [List.getElem?_set_ne (by omega)]; exact hz j (by omega)
theorem zxB (n : Nat) : (2 : Int) ^ n = 2 ^ (n % 32) * 4294967296 ^ (n / 32) := by
  have e : (4294967296 : Int) = 2 ^ 32 := by decide
  rw [e, ← Int.pow_mul, ← Int.pow_add]
  congr 1; omega
theorem qy4 {a : List Int} (ha : Dig a) {n : Nat} (hn : n ≤ 16777216) (hs : a.length ≤ 34359738360 - 524288) : Ev (fun K => qtK K a n) (digs (val a * 2 ^ n)) := by
  refine qaJ ?_
  simp only [qtK, qe3]
  have va := qf1 (qbE ha)
  have la := qeX ha
  refine qaG (qb2 ha (by omega)) ?_
  by_cases h1 : digs (val a) = []
  · refine ev_t (by simp [h1]) (qeW (qaT _) ?_)
    rw [(qlJ (qbE ha)).1 h1, Int.zero_mul, qgT]
  · refine ev_f (by simpa using h1) ?_
    have e0 : min (max (n : Int) 0) 16777216 = n := by omega
    have e1 : wI6 (Int.tdiv (n : Int) 32) = ((n / 32 : Nat) : Int) := by
      rw [Int.tdiv_eq_ediv_of_nonneg (by omega), qbR (by omega)]; omega
    have e2 : Int.tmod (n : Int) 32 = ((n % 32 : Nat) : Int) := by
      rw [Int.tmod_eq_emod_of_nonneg (by omega)]; omega
    rw [e0, e1, e2, qbR (x := ((n / 32 : Nat) : Int) + ((digs (val a)).length : Int)) (by omega), qbR (by omega),
      show ((n / 32 : Nat) : Int) + ((digs (val a)).length : Int) + 1 = ((n / 32 + (digs (val a)).length + 1 : Nat) : Int) by omega]
    simp only [Int.toNat_natCast, List.length_replicate, Nat.zero_add]
    refine qeZ (by omega) (qeZ (by omega) (qeZ (by omega) ?_))
    have hcp : qeV (List.replicate (n / 32 + (digs (val a)).length + 1) (0 : Int)) (n / 32) (n / 32 + (digs (val a)).length + 1 - n / 32) (digs (val a)) = List.replicate (n / 32) 0 ++ digs (val a) ++ [0] := by
      unfold qeV
      rw [if_pos (by simp; omega), List.take_of_length_le (by omega)]
      unfold qbW
      rw [List.take_replicate, List.drop_replicate, Nat.min_eq_left (by omega), show n / 32 + (digs (val a)).length + 1 - (n / 32 + (digs (val a)).length) = 1 by omega]
      rfl
    rw [hcp]
    have hd : Dig (List.replicate (n / 32) 0 ++ digs (val a) ++ [0]) := q4Q.2 ⟨q4Q.2 ⟨q8C (by decide), qeG _⟩, qkO.2 ⟨by decide, qxZ⟩⟩
    have hv : val (List.replicate (n / 32) 0 ++ digs (val a) ++ [0]) = val a * 4294967296 ^ (n / 32) := by
      rw [qkQ, qkQ, q0L, va]; simp [Int.mul_comm]
    have hl : (List.replicate (n / 32) 0 ++ digs (val a) ++ [0]).length = n / 32 + (digs (val a)).length + 1 := by simp; omega
    have hp : val a * 4294967296 ^ (n / 32) * 2 ^ (n % 32) = val a * 2 ^ n := by rw [zxB n, Int.mul_assoc]; congr 1; rw [Int.mul_comm]
    by_cases h2 : n % 32 = 0
    · refine ev_f (by simp [h2]) ?_
      have := qb2 hd (by omega)
      rw [hv] at this
      rw [h2, Int.pow_zero, Int.mul_one] at hp
      rw [hp] at this
      exact qaG this (qaT _)
    · refine ev_t (by simp; omega) ?_
      have hlast : val (List.replicate (n / 32) 0 ++ digs (val a) ++ [0]) * 2 ^ (n % 32) < 4294967296 ^ (List.replicate (n / 32) 0 ++ digs (val a) ++ [0]).length := by
        rw [hv, hl, Int.pow_succ, Int.pow_add]
        have h3 := qlD (qeG (val a))
        rw [va] at h3
        have h4 : (2 : Int) ^ (n % 32) < 4294967296 := by
          have : (2 : Nat) ^ (n % 32) ≤ 2 ^ 31 := Nat.pow_le_pow_right (by decide) (by omega)
          have : ((2 ^ (n % 32) : Nat) : Int) ≤ ((2 ^ 31 : Nat) : Int) := by exact_mod_cast this
          simp at this; omega
        have h5 := qe2 (n / 32)
        have h6 : (0 : Int) < 2 ^ (n % 32) := Int.pow_pos (by decide)
        have h7 := Int.mul_lt_mul_of_pos_left h3 h5
        have h8 := qbE ha
        have h9 : 0 ≤ val a * 4294967296 ^ (n / 32) := Int.mul_nonneg h8 (Int.le_of_lt h5)
        calc val a * 4294967296 ^ (n / 32) * 2 ^ (n % 32) ≤ val a * 4294967296 ^ (n / 32) * 4294967296 := Int.mul_le_mul_of_nonneg_left (Int.le_of_lt h4) h9
          _ < 4294967296 ^ (n / 32) * 4294967296 ^ (digs (val a)).length * 4294967296 := Int.mul_lt_mul_of_pos_right (by rw [Int.mul_comm (val a)]; exact h7) (by decide)
      have hlen : n / 32 + ((digs (val a)).length + 1) = (List.replicate (n / 32) 0 ++ digs (val a) ++ [0]).length := by rw [hl]; omega
      have := q5Z hd (s := n % 32) (by omega) (by omega) (by omega) hlast _ (n / 32) 0 _ hlen ⟨Int.le_refl 0, Int.pow_pos (by decide)⟩ hd rfl (by
        rw [Int.mul_zero, Int.add_zero, List.append_assoc, List.take_left' (by simp), List.drop_left' (by simp), q0L, Int.mul_zero, Int.zero_add, qkQ, q0L]
        simp) (fun _ _ => rfl)
      rw [hv, hp] at this
      exact this
theorem zl2 {a : qaB} (ha : Dig a.Abs) {n : Nat} (hn : n ≤ 16777216) (hs : a.Abs.length ≤ 34359738360 - 524288) : Ev (fun K => q05 K a n) (mkI (ival a * 2 ^ n)) := by
  refine qaJ ?_
  simp only [q05, qmT]
  refine qaG (qy4 ha hn hs) (qaG (qeW (qh0 _ (Int.mul_nonneg (qbE ha) (Int.le_of_lt (Int.pow_pos (by decide))))) ?_) (qaT _))
  congr 1
  unfold ival
  cases a.Neg <;> simp [Int.neg_mul]
theorem zv8 {g D N P U V : Int} (hP : 0 < P) (hg : 0 ≤ g) (hV : D * P ≤ V) (hU : U < (N + 1) * P) (h : N < g * D) : U < g * V := by
  have h1 := Int.mul_le_mul_of_nonneg_left hV hg
  have h2 := Int.mul_le_mul_of_nonneg_right (show N + 1 ≤ g * D by omega) (Int.le_of_lt hP)
  rw [Int.mul_assoc] at h2
  omega
theorem zxL {g D N P U V : Int} (hP : 0 < P) (hg : 0 ≤ g) (hD : g ≤ D + 1) (hV0 : 0 ≤ V) (hU0 : 0 ≤ U) (hV : V < (D + 1) * P) (hU : N * P ≤ U) (h : g * D ≤ N) : (g - 1) * V ≤ U := by
  by_cases h0 : g = 0
  · subst h0; simp only [Int.zero_sub, Int.neg_mul, Int.one_mul]; omega
  · have h1 := Int.mul_le_mul_of_nonneg_left (Int.le_of_lt hV) (show 0 ≤ g - 1 by omega)
    have h2 : (g - 1) * (D + 1) ≤ N := by
      have : (g - 1) * (D + 1) = g * D + g - 1 - D := by grind
      omega
    have h3 := Int.mul_le_mul_of_nonneg_right h2 (Int.le_of_lt hP)
    rw [Int.mul_assoc] at h3
    omega
theorem zuI {g x c b y : Int} (hg : 0 ≤ g ∧ g < 4294967296) (hx : 0 ≤ x ∧ x < 4294967296) (hc : 0 ≤ c ∧ c < 4294967296) (hb : b = 0 ∨ b = 1) (hy : 0 ≤ y ∧ y < 4294967296) :
    ∃ c' b' y' : Int, (g * x + c) / 4294967296 = c' ∧ (y - b - (g * x + c) % 4294967296) % 18446744073709551616 / 9223372036854775808 = b' ∧ (y - b - (g * x + c) % 4294967296) % 18446744073709551616 % 4294967296 = y' ∧
      (0 ≤ c' ∧ c' < 4294967296) ∧ (b' = 0 ∨ b' = 1) ∧ (0 ≤ y' ∧ y' < 4294967296) ∧ y' - 4294967296 * (b' + c') = y - g * x - (b + c) := by
  have := q64 hg hx
  generalize g * x = P at *
  exact ⟨_, _, _, rfl, rfl, rfl, by omega, by omega, by omega, by omega⟩
open Go.Proofs.Try (prog)
inductive qlY where
 | c0 (x : Int)
def qj3 : Nat → qlY → Option Int
 | 0, _ => none
 | _ + 1, .c0 x =>
  bif (decide ((4294967296 : Int) ≤ x)) then
   bif (decide ((65536 : Int) ≤ (qd2 .u64 x (32 : Int)))) then
    bif (decide ((256 : Int) ≤ (qd2 .u64 (qd2 .u64 x (32 : Int)) (16 : Int)))) then
     (gi qbY (wU1 (qd2 .u64 (qd2 .u64 (qd2 .u64 x (32 : Int)) (16 : Int)) (8 : Int)))).bind fun x4 =>
     some (wI6 ((wI6 ((wI6 ((32 : Int) + (16 : Int))) + (8 : Int))) + (wI6 x4)))
    else
     (gi qbY (wU1 (qd2 .u64 (qd2 .u64 x (32 : Int)) (16 : Int)))).bind fun x4 =>
     some (wI6 ((wI6 ((32 : Int) + (16 : Int))) + (wI6 x4)))
   else
    bif (decide ((256 : Int) ≤ (qd2 .u64 x (32 : Int)))) then
     (gi qbY (wU1 (qd2 .u64 (qd2 .u64 x (32 : Int)) (8 : Int)))).bind fun x4 =>
     some (wI6 ((wI6 ((32 : Int) + (8 : Int))) + (wI6 x4)))
    else
     (gi qbY (wU1 (qd2 .u64 x (32 : Int)))).bind fun x4 =>
     some (wI6 ((32 : Int) + (wI6 x4)))
  else
   bif (decide ((65536 : Int) ≤ x)) then
    bif (decide ((256 : Int) ≤ (qd2 .u64 x (16 : Int)))) then
     (gi qbY (wU1 (qd2 .u64 (qd2 .u64 x (16 : Int)) (8 : Int)))).bind fun x4 =>
     some (wI6 ((wI6 ((wI6 ((0 : Int) + (16 : Int))) + (8 : Int))) + (wI6 x4)))
    else
     (gi qbY (wU1 (qd2 .u64 x (16 : Int)))).bind fun x4 =>
     some (wI6 ((wI6 ((0 : Int) + (16 : Int))) + (wI6 x4)))
   else
    bif (decide ((256 : Int) ≤ x)) then
     (gi qbY (wU1 (qd2 .u64 x (8 : Int)))).bind fun x4 =>
     some (wI6 ((wI6 ((0 : Int) + (8 : Int))) + (wI6 x4)))
    else
     (gi qbY (wU1 x)).bind fun x4 =>
     some (wI6 ((0 : Int) + (wI6 x4)))
def q3Z (K : Nat) (x : Int) : Option Int := qj3 K (.c0 x)
noncomputable def q43 : Code := qbQ prog 197
noncomputable def q7M : qlY → List Fr
 | .c0 .. => [.code q43]
def zaC : qlY → St
 | .c0 x => St.init [(ti .u64 x)]
def qzY (cx : Cx) (c : qlY) (r : Int) : Prop := Wk prog cx (qc2 prog 197 [[0]] (ti .i64 r)) (q7M c) .normal (zaC c)
abbrev qzZ (K : Nat) : Prop := ∀ c r, qj3 K c = some r → ∀ cx : Cx, cx.n = 25 → qzY cx c r
theorem zaD {K} (_ : qzZ K) {cx} (hn : cx.n = 25) {x} {r} (h : qj3 (K + 1) (.c0 x) = some r) : qzY cx (.c0 x) r := by
 rw [qj3] at h
 rcases qaQ h with ⟨h1, h⟩ | ⟨h1, h⟩
 ·rcases qaQ h with ⟨h2, h⟩ | ⟨h2, h⟩
  ·rcases qaQ h with ⟨h3, h⟩ | ⟨h3, h⟩
   ·obtain ⟨x4, h5, h⟩ := qaH h
    have h := oinj h; subst h
    exact wkR [rg1, rg2, bTr, rg3, rg1, rg2, bTr, rg3, rg3, rg2, bTr, rg3, rg3, rgG [oo, oo, oo, opI (.sx x4), oo, oo, oo]] hn (aC h1 <| aC h2 <| aC h3 <| aC (qa1 h5) <| aC (qvU h5 : qbY[(wU1 (qd2 .u64 (qd2 .u64 (qd2 .u64 x (32 : Int)) (16 : Int)) (8 : Int))).toNat]? = some x4) <| aN)
   ·obtain ⟨x4, h5, h⟩ := qaH h
    have h := oinj h; subst h
    exact wkR [rg1, rg2, bTr, rg3, rg1, rg2, bTr, rg3, rg3, rg2, bFa, rgG [oo, oo, oo, opI (.sx x4), oo, oo, oo]] hn (aC h1 <| aC h2 <| aC h3 <| aC (qa1 h5) <| aC (qvU h5 : qbY[(wU1 (qd2 .u64 (qd2 .u64 x (32 : Int)) (16 : Int))).toNat]? = some x4) <| aN)
  ·rcases qaQ h with ⟨h3, h⟩ | ⟨h3, h⟩
   ·obtain ⟨x4, h5, h⟩ := qaH h
    have h := oinj h; subst h
    exact wkR [rg1, rg2, bTr, rg3, rg1, rg2, bFa, rg2, bTr, rg3, rg3, rgG [oo, oo, oo, opI (.sx x4), oo, oo, oo]] hn (aC h1 <| aC h2 <| aC h3 <| aC (qa1 h5) <| aC (qvU h5 : qbY[(wU1 (qd2 .u64 (qd2 .u64 x (32 : Int)) (8 : Int))).toNat]? = some x4) <| aN)
   ·obtain ⟨x4, h5, h⟩ := qaH h
    have h := oinj h; subst h
    exact wkR [rg1, rg2, bTr, rg3, rg1, rg2, bFa, rg2, bFa, rgG [oo, oo, oo, opI (.sx x4), oo, oo, oo]] hn (aC h1 <| aC h2 <| aC h3 <| aC (qa1 h5) <| aC (qvU h5 : qbY[(wU1 (qd2 .u64 x (32 : Int))).toNat]? = some x4) <| aN)
 ·rcases qaQ h with ⟨h2, h⟩ | ⟨h2, h⟩
  ·rcases qaQ h with ⟨h3, h⟩ | ⟨h3, h⟩
   ·obtain ⟨x4, h5, h⟩ := qaH h
    have h := oinj h; subst h
    exact wkR [rg1, rg2, bFa, rg2, bTr, rg3, rg3, rg2, bTr, rg3, rg3, rgG [oo, oo, oo, opI (.sx x4), oo, oo, oo]] hn (aC h1 <| aC h2 <| aC h3 <| aC (qa1 h5) <| aC (qvU h5 : qbY[(wU1 (qd2 .u64 (qd2 .u64 x (16 : Int)) (8 : Int))).toNat]? = some x4) <| aN)
   ·obtain ⟨x4, h5, h⟩ := qaH h
    have h := oinj h; subst h
    exact wkR [rg1, rg2, bFa, rg2, bTr, rg3, rg3, rg2, bFa, rgG [oo, oo, oo, opI (.sx x4), oo, oo, oo]] hn (aC h1 <| aC h2 <| aC h3 <| aC (qa1 h5) <| aC (qvU h5 : qbY[(wU1 (qd2 .u64 x (16 : Int))).toNat]? = some x4) <| aN)
  ·rcases qaQ h with ⟨h3, h⟩ | ⟨h3, h⟩
   ·obtain ⟨x4, h5, h⟩ := qaH h
    have h := oinj h; subst h
    exact wkR [rg1, rg2, bFa, rg2, bFa, rg2, bTr, rg3, rg3, rgG [oo, oo, oo, opI (.sx x4), oo, oo, oo]] hn (aC h1 <| aC h2 <| aC h3 <| aC (qa1 h5) <| aC (qvU h5 : qbY[(wU1 (qd2 .u64 x (8 : Int))).toNat]? = some x4) <| aN)
   ·obtain ⟨x4, h5, h⟩ := qaH h
    have h := oinj h; subst h
    exact wkR [rg1, rg2, bFa, rg2, bFa, rg2, bFa, rgG [oo, oo, oo, opI (.sx x4), oo, oo, oo]] hn (aC h1 <| aC h2 <| aC h3 <| aC (qa1 h5) <| aC (qvU h5 : qbY[(wU1 x).toNat]? = some x4) <| aN)
theorem qxI : ∀ K : Nat, qzZ K
 | 0, c, r, h => by rw [qj3] at h; cases h
 | K + 1, .c0 .., r, h => fun cx hn => zaD (qxI K) hn h
theorem q3Y {K : Nat} {x : Int} {r : Int} (h : q3Z K x = some r) : qc5 prog 197 [(ti .u64 x)] (ti .i64 r) :=
 qa0 [[0]] (by kernel_rfl) (by simp) fun cx hn => qxI K (.c0 x) r h cx hn
open Go.Proofs.Try (prog)
inductive qgK where
 | c0 (x : Int)
def qfN : Nat → qgK → Option Int
 | 0, _ => none
 | K + 1, .c0 x =>
  (q3Z K x).bind fun x1 =>
  some (wI6 ((64 : Int) - x1))
def qrD (K : Nat) (x : Int) : Option Int := qfN K (.c0 x)
noncomputable def qvS : Code := qbQ prog 195
noncomputable def qwE : qgK → List Fr
 | .c0 .. => [.code qvS]
def qxK : qgK → St
 | .c0 x => St.init [(ti .u64 x)]
def qo5 (cx : Cx) (c : qgK) (r : Int) : Prop := Wk prog cx (qc2 prog 195 [[0]] (ti .i64 r)) (qwE c) .normal (qxK c)
abbrev qo6 (K : Nat) : Prop := ∀ c r, qfN K c = some r → ∀ cx : Cx, cx.n = 6 → qo5 cx c r
theorem qxL {K} (_ : qo6 K) {cx} (hn : cx.n = 6) {x} {r} (h : qfN (K + 1) (.c0 x) = some r) : qo5 cx (.c0 x) r := by
 rw [qfN] at h
 obtain ⟨x1, h2, h⟩ := qaH h
 have h := oinj h; subst h
 exact wkR [rg1, rgG [oo, opI (.call [[0]] [(ti .u64 x)] (ti .i64 x1)), oo, oo]] hn (aC (q3Y h2) <| aN)
theorem qnM : ∀ K : Nat, qo6 K
 | 0, c, r, h => by rw [qfN] at h; cases h
 | K + 1, .c0 .., r, h => fun cx hn => qxL (qnM K) hn h
theorem quV {K : Nat} {x : Int} {r : Int} (h : qrD K x = some r) : qc5 prog 195 [(ti .u64 x)] (ti .i64 r) :=
 qa0 [[0]] (by kernel_rfl) (by simp) fun cx hn => qnM K (.c0 x) r h cx hn
open Go.Proofs.Try (prog)
inductive ql0 where
 | c0 (hi : Int) (lo : Int) (y : Int)
 | c1 (y : Int) (s : Int) (yn1 : Int) (yn0 : Int) (un32 : Int) (un1 : Int) (un0 : Int) (q1 : Int) (rhat : Int)
 | c2 (y : Int) (s : Int) (yn1 : Int) (yn0 : Int) (un32 : Int) (un1 : Int) (un0 : Int) (q1 : Int)
 | c3 (y : Int) (s : Int) (yn1 : Int) (yn0 : Int) (un0 : Int) (q1 : Int) (rhat : Int) (un21 : Int) (q0 : Int)
 | c4 (y : Int) (s : Int) (un0 : Int) (q1 : Int) (un21 : Int) (q0 : Int)
def qbA : Nat → ql0 → Option (Int × Int)
 | 0, _ => none
 | K + 1, .c0 hi lo y =>
  bif (decide (y = (0 : Int))) then
   none
  else
   bif (decide (y ≤ hi)) then
    none
   else
    bif (decide (hi = (0 : Int))) then
     gd (y ≠ 0) <|
     gd (y ≠ 0) <|
     some ((wU6 (Int.tdiv lo y)), (Int.tmod lo y))
    else
     (qrD K y).bind fun x4 =>
     gd (0 ≤ (wU6 x4)) <|
     gd (0 ≤ (wU6 x4)) <|
     gd (0 ≤ (wU6 ((64 : Int) - (wU6 x4)))) <|
     gd (0 ≤ (wU6 x4)) <|
     gd ((qd2 .u64 (qhT .u64 y (wU6 x4)) (32 : Int)) ≠ 0) <|
     qbA K (.c1 (qhT .u64 y (wU6 x4)) (wU6 x4) (qd2 .u64 (qhT .u64 y (wU6 x4)) (32 : Int)) (bits .and .u64 (qhT .u64 y (wU6 x4)) (4294967295 : Int)) (bits .or .u64 (qhT .u64 hi (wU6 x4)) (qd2 .u64 lo (wU6 ((64 : Int) - (wU6 x4))))) (qd2 .u64 (qhT .u64 lo (wU6 x4)) (32 : Int)) (bits .and .u64 (qhT .u64 lo (wU6 x4)) (4294967295 : Int)) (wU6 (Int.tdiv (bits .or .u64 (qhT .u64 hi (wU6 x4)) (qd2 .u64 lo (wU6 ((64 : Int) - (wU6 x4))))) (qd2 .u64 (qhT .u64 y (wU6 x4)) (32 : Int)))) (wU6 ((bits .or .u64 (qhT .u64 hi (wU6 x4)) (qd2 .u64 lo (wU6 ((64 : Int) - (wU6 x4))))) - (wU6 ((wU6 (Int.tdiv (bits .or .u64 (qhT .u64 hi (wU6 x4)) (qd2 .u64 lo (wU6 ((64 : Int) - (wU6 x4))))) (qd2 .u64 (qhT .u64 y (wU6 x4)) (32 : Int)))) * (qd2 .u64 (qhT .u64 y (wU6 x4)) (32 : Int)))))))
 | K + 1, .c1 y s yn1 yn0 un32 un1 un0 q1 rhat =>
  bif (decide ((4294967296 : Int) ≤ q1)) then
   bif (decide ((4294967296 : Int) ≤ (wU6 (rhat + yn1)))) then
    qbA K (.c2 y s yn1 yn0 un32 un1 un0 (wU6 (q1 - (1 : Int))))
   else
    qbA K (.c1 y s yn1 yn0 un32 un1 un0 (wU6 (q1 - (1 : Int))) (wU6 (rhat + yn1)))
  else
   bif (decide ((wU6 ((wU6 ((4294967296 : Int) * rhat)) + un1)) < (wU6 (q1 * yn0)))) then
    bif (decide ((4294967296 : Int) ≤ (wU6 (rhat + yn1)))) then
     qbA K (.c2 y s yn1 yn0 un32 un1 un0 (wU6 (q1 - (1 : Int))))
    else
     qbA K (.c1 y s yn1 yn0 un32 un1 un0 (wU6 (q1 - (1 : Int))) (wU6 (rhat + yn1)))
   else
    qbA K (.c2 y s yn1 yn0 un32 un1 un0 q1)
 | K + 1, .c2 y s yn1 yn0 un32 un1 un0 q1 =>
  gd (yn1 ≠ 0) <|
  qbA K (.c3 y s yn1 yn0 un0 q1 (wU6 ((wU6 ((wU6 ((wU6 (un32 * (4294967296 : Int))) + un1)) - (wU6 (q1 * y)))) - (wU6 ((wU6 (Int.tdiv (wU6 ((wU6 ((wU6 (un32 * (4294967296 : Int))) + un1)) - (wU6 (q1 * y)))) yn1)) * yn1)))) (wU6 ((wU6 ((wU6 (un32 * (4294967296 : Int))) + un1)) - (wU6 (q1 * y)))) (wU6 (Int.tdiv (wU6 ((wU6 ((wU6 (un32 * (4294967296 : Int))) + un1)) - (wU6 (q1 * y)))) yn1)))
 | K + 1, .c3 y s yn1 yn0 un0 q1 rhat un21 q0 =>
  bif (decide ((4294967296 : Int) ≤ q0)) then
   bif (decide ((4294967296 : Int) ≤ (wU6 (rhat + yn1)))) then
    qbA K (.c4 y s un0 q1 un21 (wU6 (q0 - (1 : Int))))
   else
    qbA K (.c3 y s yn1 yn0 un0 q1 (wU6 (rhat + yn1)) un21 (wU6 (q0 - (1 : Int))))
  else
   bif (decide ((wU6 ((wU6 ((4294967296 : Int) * rhat)) + un0)) < (wU6 (q0 * yn0)))) then
    bif (decide ((4294967296 : Int) ≤ (wU6 (rhat + yn1)))) then
     qbA K (.c4 y s un0 q1 un21 (wU6 (q0 - (1 : Int))))
    else
     qbA K (.c3 y s yn1 yn0 un0 q1 (wU6 (rhat + yn1)) un21 (wU6 (q0 - (1 : Int))))
   else
    qbA K (.c4 y s un0 q1 un21 q0)
 | _ + 1, .c4 y s un0 q1 un21 q0 =>
  gd (0 ≤ s) <|
  some ((wU6 ((wU6 (q1 * (4294967296 : Int))) + q0)), (qd2 .u64 (wU6 ((wU6 ((wU6 (un21 * (4294967296 : Int))) + un0)) - (wU6 (q0 * y)))) s))
def qn5 (K : Nat) (hi : Int) (lo : Int) (y : Int) : Option (Int × Int) := qbA K (.c0 hi lo y)
noncomputable def qeL : Code := qbQ prog 188
noncomputable def q7O : ql0 → List Fr
 | .c0 .. => [.code qeL]
 | .c1 .. => [.code (.loop (atC qeL [1,1,1,1,1,1,1,1,1,1,1,1,1,1,0,0,0])), .blk 0, .code (atC qeL [1,1,1,1,1,1,1,1,1,1,1,1,1,1,1])]
 | .c2 .. => [.code (atC qeL [1,1,1,1,1,1,1,1,1,1,1,1,1,1,1,0]), .code (atC qeL [1,1,1,1,1,1,1,1,1,1,1,1,1,1,1,1])]
 | .c3 .. => [.code (.loop (atC qeL [1,1,1,1,1,1,1,1,1,1,1,1,1,1,1,1,1,1,0,0,0])), .blk 2, .code (atC qeL [1,1,1,1,1,1,1,1,1,1,1,1,1,1,1,1,1,1,1])]
 | .c4 .. => [.code (atC qeL [1,1,1,1,1,1,1,1,1,1,1,1,1,1,1,1,1,1,1,0]), .code (atC qeL [1,1,1,1,1,1,1,1,1,1,1,1,1,1,1,1,1,1,1,1])]
def zaH : ql0 → St
 | .c0 hi lo y => St.init [(ti .u64 hi), (ti .u64 lo), (ti .u64 y)]
 | .c1 y s yn1 yn0 un32 un1 un0 q1 rhat => ⟨[(2, vi .u64 y), (8, vi .u64 s), (9, vi .u64 yn1), (10, vi .u64 yn0), (11, vi .u64 un32), (13, vi .u64 un1), (14, vi .u64 un0), (15, vi .u64 q1), (16, vi .u64 rhat)], [], []⟩
 | .c2 y s yn1 yn0 un32 un1 un0 q1 => ⟨[(2, vi .u64 y), (8, vi .u64 s), (9, vi .u64 yn1), (10, vi .u64 yn0), (11, vi .u64 un32), (13, vi .u64 un1), (14, vi .u64 un0), (15, vi .u64 q1)], [], []⟩
 | .c3 y s yn1 yn0 un0 q1 rhat un21 q0 => ⟨[(2, vi .u64 y), (8, vi .u64 s), (9, vi .u64 yn1), (10, vi .u64 yn0), (14, vi .u64 un0), (15, vi .u64 q1), (16, vi .u64 rhat), (17, vi .u64 un21), (18, vi .u64 q0)], [], []⟩
 | .c4 y s un0 q1 un21 q0 => ⟨[(2, vi .u64 y), (8, vi .u64 s), (14, vi .u64 un0), (15, vi .u64 q1), (17, vi .u64 un21), (18, vi .u64 q0)], [], []⟩
def qi3 (cx : Cx) (c : ql0) (r : (Int × Int)) : Prop := Wk prog cx (qc2 prog 188 [[0], [0]] (TV.tup [(false, [(T.int .u64 r.1)]), (false, [(T.int .u64 r.2)])])) (q7O c) .normal (zaH c)
abbrev qi4 (K : Nat) : Prop := ∀ c r, qbA K c = some r → ∀ cx : Cx, cx.n = 135 → qi3 cx c r
theorem zaN {K} (ih : qi4 K) {cx} (hn : cx.n = 135) {hi lo y} {r} (h : qbA (K + 1) (.c0 hi lo y) = some r) : qi3 cx (.c0 hi lo y) r := by
 rw [qbA] at h
 rcases qaQ h with ⟨h1, h⟩ | ⟨h1, h⟩
 ·cases h
 ·rcases qaQ h with ⟨h2, h⟩ | ⟨h2, h⟩
  ·cases h
  ·rcases qaQ h with ⟨h3, h⟩ | ⟨h3, h⟩
   ·obtain ⟨h4, h⟩ := qbI h
    obtain ⟨h5, h⟩ := qbI h
    have h := oinj h; subst h
    exact wkR [rg2, rg2, bFa, rg3, bFa, rg2, bTr, .draw [.p, .p, .dv, .p, .p, .dv, .p] [.op .p]] hn (aC h1 <| aC h2 <| aC h3 <| aC h4 <| aC h5 <| aN)
   ·obtain ⟨x4, h5, h⟩ := qaH h
    obtain ⟨h6, h⟩ := qbI h
    obtain ⟨h7, h⟩ := qbI h
    obtain ⟨h8, h⟩ := qbI h
    obtain ⟨h9, h⟩ := qbI h
    obtain ⟨h10, h⟩ := qbI h
    exact wkG [rg2, rg2, bFa, rg3, bFa, rg2, bFa, rgG [oo, opI (.call [[0]] [(ti .u64 y)] (ti .i64 x4)), oo, oo], rgG [oo, oo, .op .dv, oo], rg3, rg3, rgG [oo, oo, .op .dv, oo, oo, oo, .op .dv, oo, oo], rgG [oo, oo, .op .dv, oo], rg3, rg3, rgG [oo, oo, .op .dv, oo], rg6, .pre [.keep [2,8,9,10,11,13,14,15,16] []]] hn (aC h1 <| aC h2 <| aC h3 <| aC (quV h5) <| aC h6 <| aC h7 <| aC h8 <| aC h9 <| aC h10 <| aN) (ih _ _ h cx hn)
theorem zaM {K} (ih : qi4 K) {cx} (hn : cx.n = 135) {y s yn1 yn0 un32 un1 un0 q1 rhat} {r} (h : qbA (K + 1) (.c1 y s yn1 yn0 un32 un1 un0 q1 rhat) = some r) : qi3 cx (.c1 y s yn1 yn0 un32 un1 un0 q1 rhat) r := by
 rw [qbA] at h
 rcases qaQ h with ⟨h1, h⟩ | ⟨h1, h⟩
 ·rcases qaQ h with ⟨h2, h⟩ | ⟨h2, h⟩
  ·exact wkG [.go, rgG [oo, oo, oo, .sb 69 true, oo, oo, oo, oo, oo, oo, oo, oo, oo], bTr, rg3, rg4, rg2, bTr, .pre [.keep [2,8,9,10,11,13,14,15] []]] hn (aC h1 <| aC rt <| aC h2 <| aN) (ih _ _ h cx hn)
  ·exact wkG [.go, rgG [oo, oo, oo, .sb 69 true, oo, oo, oo, oo, oo, oo, oo, oo, oo], bTr, rg3, rg4, rg2, bFa, .pre [.keep [2,8,9,10,11,13,14,15,16] []]] hn (aC h1 <| aC rt <| aC h2 <| aN) (ih _ _ h cx hn)
 ·rcases qaQ h with ⟨h2, h⟩ | ⟨h2, h⟩
  ·rcases qaQ h with ⟨h3, h⟩ | ⟨h3, h⟩
   ·exact wkG [.go, rgG [oo, oo, oo, .sb 69 false, oo, oo, oo, oo, oo, oo, oo, oo, oo], bTr, rg3, rg4, rg2, bTr, .pre [.keep [2,8,9,10,11,13,14,15] []]] hn (aC h1 <| aC h2 <| aC h3 <| aN) (ih _ _ h cx hn)
   ·exact wkG [.go, rgG [oo, oo, oo, .sb 69 false, oo, oo, oo, oo, oo, oo, oo, oo, oo], bTr, rg3, rg4, rg2, bFa, .pre [.keep [2,8,9,10,11,13,14,15,16] []]] hn (aC h1 <| aC h2 <| aC h3 <| aN) (ih _ _ h cx hn)
  ·exact wkG [.go, rgG [oo, oo, oo, .sb 69 false, oo, oo, oo, oo, oo, oo, oo, oo, oo], bFa, .pre [.keep [2,8,9,10,11,13,14,15] []]] hn (aC h1 <| aC h2 <| aN) (ih _ _ h cx hn)
theorem zaL {K} (ih : qi4 K) {cx} (hn : cx.n = 135) {y s yn1 yn0 un32 un1 un0 q1} {r} (h : qbA (K + 1) (.c2 y s yn1 yn0 un32 un1 un0 q1) = some r) : qi3 cx (.c2 y s yn1 yn0 un32 un1 un0 q1) r := by
 rw [qbA] at h
 obtain ⟨h1, h⟩ := qbI h
 exact wkG [rgG [oo, oo, oo, oo, oo, oo, oo, oo, oo], rgG [oo, oo, .op .dv, oo], rg6, .pre [.keep [2,8,9,10,14,15,16,17,18] []]] hn (aC h1 <| aN) (ih _ _ h cx hn)
theorem zaK {K} (ih : qi4 K) {cx} (hn : cx.n = 135) {y s yn1 yn0 un0 q1 rhat un21 q0} {r} (h : qbA (K + 1) (.c3 y s yn1 yn0 un0 q1 rhat un21 q0) = some r) : qi3 cx (.c3 y s yn1 yn0 un0 q1 rhat un21 q0) r := by
 rw [qbA] at h
 rcases qaQ h with ⟨h1, h⟩ | ⟨h1, h⟩
 ·rcases qaQ h with ⟨h2, h⟩ | ⟨h2, h⟩
  ·exact wkG [.go, rgG [oo, oo, oo, .sb 104 true, oo, oo, oo, oo, oo, oo, oo, oo, oo], bTr, rg3, rg4, rg2, bTr, .pre [.keep [2,8,14,15,17,18] []]] hn (aC h1 <| aC rt <| aC h2 <| aN) (ih _ _ h cx hn)
  ·exact wkG [.go, rgG [oo, oo, oo, .sb 104 true, oo, oo, oo, oo, oo, oo, oo, oo, oo], bTr, rg3, rg4, rg2, bFa, .pre [.keep [2,8,9,10,14,15,16,17,18] []]] hn (aC h1 <| aC rt <| aC h2 <| aN) (ih _ _ h cx hn)
 ·rcases qaQ h with ⟨h2, h⟩ | ⟨h2, h⟩
  ·rcases qaQ h with ⟨h3, h⟩ | ⟨h3, h⟩
   ·exact wkG [.go, rgG [oo, oo, oo, .sb 104 false, oo, oo, oo, oo, oo, oo, oo, oo, oo], bTr, rg3, rg4, rg2, bTr, .pre [.keep [2,8,14,15,17,18] []]] hn (aC h1 <| aC h2 <| aC h3 <| aN) (ih _ _ h cx hn)
   ·exact wkG [.go, rgG [oo, oo, oo, .sb 104 false, oo, oo, oo, oo, oo, oo, oo, oo, oo], bTr, rg3, rg4, rg2, bFa, .pre [.keep [2,8,9,10,14,15,16,17,18] []]] hn (aC h1 <| aC h2 <| aC h3 <| aN) (ih _ _ h cx hn)
  ·exact wkG [.go, rgG [oo, oo, oo, .sb 104 false, oo, oo, oo, oo, oo, oo, oo, oo, oo], bFa, .pre [.keep [2,8,14,15,17,18] []]] hn (aC h1 <| aC h2 <| aN) (ih _ _ h cx hn)
theorem zaJ {K} (_ : qi4 K) {cx} (hn : cx.n = 135) {y s un0 q1 un21 q0} {r} (h : qbA (K + 1) (.c4 y s un0 q1 un21 q0) = some r) : qi3 cx (.c4 y s un0 q1 un21 q0) r := by
 rw [qbA] at h
 obtain ⟨h1, h⟩ := qbI h
 have h := oinj h; subst h
 exact wkR [rgG [oo, oo, oo, oo, oo, oo, oo, oo, oo, oo, oo, oo, oo, .op .dv, oo, oo]] hn (aC h1 <| aN)
theorem qg8 : ∀ K : Nat, qi4 K
 | 0, c, r, h => by rw [qbA] at h; cases h
 | K + 1, .c0 .., r, h => fun cx hn => zaN (qg8 K) hn h
 | K + 1, .c1 .., r, h => fun cx hn => zaM (qg8 K) hn h
 | K + 1, .c2 .., r, h => fun cx hn => zaL (qg8 K) hn h
 | K + 1, .c3 .., r, h => fun cx hn => zaK (qg8 K) hn h
 | K + 1, .c4 .., r, h => fun cx hn => zaJ (qg8 K) hn h
theorem quW {K : Nat} {hi : Int} {lo : Int} {y : Int} {r : (Int × Int)} (h : qn5 K hi lo y = some r) : qc5 prog 188 [(ti .u64 hi), (ti .u64 lo), (ti .u64 y)] (TV.tup [(false, [(T.int .u64 r.1)]), (false, [(T.int .u64 r.2)])]) :=
 qa0 [[0], [0]] (by kernel_rfl) (by simp) fun cx hn => qg8 K (.c0 hi lo y) r h cx hn
end Go.Am.X
