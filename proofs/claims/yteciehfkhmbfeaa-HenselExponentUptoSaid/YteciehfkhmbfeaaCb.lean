/- Part 2 of the proof: Am16 .. Fn_integer_Add. -/
import Derived.Test.YteciehfkhmbfeaaCa
import Derived.Scope
import Derived.Test.YteciehfkhmbfeaaProg
namespace Go.Am
open Go.RowKit (Below)

def AllP : List Prop → Prop
  | [] => True
  | p :: ps => p ∧ AllP ps

theorem AllP.append : ∀ {xs ys : List Prop}, AllP (xs ++ ys) → AllP xs ∧ AllP ys
  | [], _, h => ⟨trivial, h⟩
  | _ :: _, _, h => ⟨⟨h.1, (AllP.append h.2).1⟩, (AllP.append h.2).2⟩

/-- Hints for one operation. -/
inductive H where
  | p
  | ix (el : List T)
  | ir
  | ld (el : List T)
  | st (el : List T) (es : List (List T))
  | mk (zt : List T) (es : List (List T))
  | lit (es : List (List T))
  | appN (es : List (List T))
  | appR (es es2 : List (List T))
  | appT (es : List (List T))
  | call (hss : List (List Nat)) (ys : List TV) (res : TV)
  | slT (l h : Nat) (es : List (List T))
  | slR (l h off len : Nat)
  | clip (l h m off len : Nat)
  | sl0
  | ln (n : Int)
  | dv
  | sx (r : Int)
  | cp (es2 es : List (List T)) (n : Int)
  | slM (l h m : Nat) (es : List (List T))
  | litT (es : List (List T))
  | clo
  | app0
  | pk (b : Bool)
  | ia (n : Nat)
  | lit0
  | ga (b : Bool) (h : H)

def bndP (st : St) (o : Option Operand) (d r : Nat) : Option Prop :=
  match o with
  | none => some (r = d)
  | some x => match st.ev x with
    | .c (.t (.int _ n)) => some (0 ≤ n ∧ r = n.toNat)
    | _ => none

theorem bndP_spec {st σ : St} {o : Option Operand} {d r : Nat} {p : Prop} (h : bndP st o d r = some p) (hp : p) (hs : ∀ x, o = some x → σ.ev x = st.ev x) : evB σ o d r := by
  cases o with
  | none => simp only [bndP] at h; cases h; exact hp
  | some x =>
    simp only [bndP] at h
    split at h
    · rename_i k n hx
      cases h
      exact ⟨k, n, (hs x rfl).trans hx, hp.1, hp.2⟩
    · cases h

def rkOf (st : St) (o : Oper) : List Nat := o.op.operands.toList.flatMap fun x => (st.ev x).keys

theorem rkOf_ok (st : St) (o : Oper) : keysOk st o (rkOf st o) = true := by
  simp only [keysOk, List.all_eq_true]
  intro x hx j hj
  simp only [List.contains_iff_mem, rkOf, List.mem_flatMap]
  exact ⟨x, hx, hj⟩

def newsOf (hp : List (Nat × Blk)) (sz : Nat) : V → Option (List (List T))
  | .c (.t (.sl sz' es)) => if sz' = sz then some es else none
  | .c .nil => some []
  | .c (.row j off len) => match hp.lookup j with | some (.row _ sz' es _) => if sz' = sz then some ((es.drop off).take len) else none | _ => none
  | .c (.clip j off len) => match hp.lookup j with | some (.row _ sz' es _) => if sz' = sz then some ((es.drop off).take len) else none | _ => none
  | _ => none

theorem newsOf_spec {hp : List (Nat × Blk)} {sz : Nat} {v : V} {es : List (List T)} (h : newsOf hp sz v = some es) : NewsA hp sz v es := by
  unfold newsOf at h
  split at h
  · split at h
    · rename_i e; subst e; cases h; exact .t _
    · cases h
  · cases h; exact .nil
  · split at h
    · rename_i hl
      split at h
      · rename_i e; subst e; cases h; exact .row _ _ _ _ _ _ hl
      · cases h
    · cases h
  · split at h
    · rename_i hl
      split at h
      · rename_i e; subst e; cases h; exact .clip _ _ _ _ _ _ hl
      · cases h
    · cases h
  · cases h

section
variable {P : Program} {cx : Cx} {o : Oper} {st : St}

theorem run_call_copy {d x : Operand} {t t2 : TypeId} {v u : Value} (ho : o.op = .call { callee := .builtin .copy, args := #[d, x], argTypes := #[t, t2] })
    {a : Act} {w : World} (h1 : a.eval d = v) (h2 : a.eval x = u) {r : Value} {w' : World} (hr : (Builtin.copy_ #[t, t2] o.type #[v, u]).run P w = .ok r w') : (execOp a.eval o).run P w = .ok (.value r) w' := by
  simp only [execOp, ho, resolve, Sem.run_bind, Sem.run_pure, Result.andThen_ok, invoke, builtin, List.map_toArray, List.map_cons, List.map_nil, h1, h2, hr]

theorem run_copy_none (w : World) (dT sT ty elem : TypeId) (a : Addr) (ad : Option Addr) (dLen dCap sCap : Nat) (hu : P.underlying dT = some (.slice elem)) (hs : ((P.info? elem).map (·.size)).isSome = true) :
    (Builtin.copy_ #[dT, sT] ty #[.slice (some a) dLen dCap, .slice ad 0 sCap]).run P w = .ok (goInt 0) w := by
  cases hq : P.info? elem with
  | none => simp [hq] at hs
  | some i => cases ad <;> simp [Builtin.copy_, run_underlying hu, Builtin.lenOf, Builtin.firstCells, sizeOf, typeInfo, hq, storeCells, loadCells, loadCellsFrom]

/-- copy into a row of the call's own, of elements of one cell. -/
theorem ok_copy {t t2 : TypeId} {d x : Operand} {j off len e by' : Nat} {z : Value} {es es2 : List (List T)} (ho : o.op = .call { callee := .builtin .copy, args := #[d, x], argTypes := #[t, t2] })
    (hi : elemInfo P t = some (e, 1, by', z)) (hs : st.ev d = .c (.row j off len)) (hj : st.hp.lookup j = some (.row e 1 es 0)) (hn : NewsA st.hp 1 (st.ev x) es2) :
    OpOK P cx o st ((st.addB j (.row e 1 (splice es off (es2.take (min es2.length len))) 0)).put? o.dst (.c (.t (.int .i64 ((min es2.length len : Nat) : Int))))) := by
  intro hd' a w hsim K Q hK
  obtain ⟨L, I, h⟩ := hsim
  obtain ⟨ad, cap, hx, hes2, hc⟩ := (hn.R h (h.ev x)).cells
  have hv := h.ev d
  rw [hs] at hv
  obtain ⟨g1, g2⟩ := hv e 1 es 0 hj
  obtain ⟨ii, hu, hie, hsize, _, _, _⟩ := elemInfo_spec hi
  have hsz1 : (P.info? e).map (·.size) = some 1 := by rw [hie]; simp [hsize]
  obtain ⟨hB, hsz0, hcap, hmx, hes, hIf, arr, hg, hsz, hcs⟩ := h.hp j _ hj
  rw [Nat.mul_one] at g2
  have fin : ∀ (cs : List Value), cs.length = min es2.length len → (∀ (q : Nat) (y : List T) (t' : T), (es2.take (min es2.length len))[q]? = some y → y[0]? = some t' → ∃ u, cs[q]? = some u ∧ Rep w I u t') →
      SimD cx L I (st.addB j (.row e 1 (splice es off (es2.take (min es2.length len))) 0)) a (w.setRow (L.m j) (splice arr.toList off cs).toArray) := by
    intro cs hcl hcr
    have hn' : (es2.take (min es2.length len)).length = min es2.length len := by rw [List.length_take]; omega
    have hfit : off + cs.length ≤ arr.size := by rw [hsz]; omega
    have hget : ∀ q, (splice arr.toList off cs).toArray[q]? = if off ≤ q ∧ q < off + cs.length then cs[q - off]? else arr[q]? := by
      intro q
      rw [List.getElem?_toArray, splice_get _ _ _ (by simpa using hfit)]
      simp
    refine h.write hj hg (fun e' sz' es' fz' he => by cases he; exact ⟨es, 0, rfl, by simp only [splice, List.length_append, List.length_take, List.length_drop]; omega⟩) (fun q hq => ?_) fun kk => ?_
    · have := hIf q hq
      omega
    · refine ⟨hB, hsz0, ?_, hmx, ?_, hIf, _, setRow_heap w _ arr _ e _ hg, ?_, ?_⟩
      · simp only [splice, List.length_append, List.length_take, List.length_drop]; omega
      · intro y hy
        simp only [splice, List.mem_append] at hy
        rcases hy with (hy | hy) | hy
        · exact hes y (List.mem_of_mem_take hy)
        · exact hes2 y (List.mem_of_mem_take hy)
        · exact hes y (List.mem_of_mem_drop hy)
      · simp only [List.size_toArray, splice, List.length_append, List.length_take, List.length_drop, Array.length_toList]; omega
      · intro i' k' y t' hy' ht'
        rw [splice_get _ _ _ (by rw [hn']; omega)] at hy'
        have hk' : k' = 0 := by
          have h1 := (List.getElem?_eq_some_iff.1 ht').1
          have h2 : y.length = 1 := by
            split at hy'
            · exact hes2 y (List.mem_of_mem_take (List.mem_of_getElem? hy'))
            · exact hes y (List.mem_of_getElem? hy')
          omega
        subst hk'
        rw [hget, Nat.mul_one, Nat.add_zero]
        by_cases hin : off ≤ i' ∧ i' < off + min es2.length len
        · rw [if_pos (by rw [hn']; exact hin)] at hy'
          rw [if_pos (by rw [hcl]; exact hin)]
          obtain ⟨u, q1, q2⟩ := hcr _ y t' hy' ht'
          exact ⟨u, q1, kk.rep q2⟩
        · rw [if_neg (by rw [hn']; exact hin)] at hy'
          rw [if_neg (by rw [hcl]; exact hin)]
          obtain ⟨v, q1, q2⟩ := hcs i' 0 y t' hy' ht'
          rw [Nat.mul_one, Nat.add_zero] at q1
          exact ⟨v, q1, kk.rep q2⟩
  have goI : ∀ n : Nat, goInt n = .int .i64 (n : Int) := fun n => rfl
  unfold Oper.wp
  rcases hc with rfl | ⟨b, so, rfl, news, hl, hcell, h1, hrep⟩
  · have hrun := run_call_copy (P := P) (w := w) ho g2 hx (run_copy_none (P := P) w t t2 o.type e ⟨L.m j, off, none⟩ ad len (L.cp j - off) cap hu (by rw [hsz1]; rfl))
    rw [hrun]
    refine hK _ _ (sim_put (v := .c (.t (.int .i64 _))) (L := L) (I := I) ?_ (.int _ _) hd')
    have := fin [] (by simp) (by simp)
    have hself : (splice arr.toList off ([] : List Value)).toArray = arr := by simp [splice]
    rw [hself, setRow_self w _ arr e (0, 0) hg] at this
    exact this
  · have hl1 : news.length = es2.length := by rw [hl, Nat.mul_one]
    have hrun := run_call_copy (P := P) (w := w) ho g2 hx (run_copy_row (P := P) w t t2 o.type e (L.m j) off len (L.cp j - off) ⟨b, so, none⟩ es2.length cap arr e (news.take (min es2.length len)) hu hsz1 hg
      (by rw [List.length_take, hl1]; simp only [Nat.min_def]; split <;> split <;> omega) (fun q u hq => by
        rw [List.getElem?_take] at hq
        split at hq
        · exact hcell q u hq
        · cases hq) (by rw [hsz, List.length_take, hl1]; omega) (fun u hu => h1 u (List.mem_of_mem_take hu)))
    rw [hrun]
    have hcl : (news.take (min es2.length len)).length = min es2.length len := by rw [List.length_take, hl1]; omega
    have hf := fin (news.take (min es2.length len)) hcl (fun q y t' hy ht => by
      rw [List.getElem?_take] at hy
      split at hy
      · rename_i hq
        obtain ⟨u, q1, q2⟩ := hrep q 0 y t' hy ht
        rw [Nat.mul_one, Nat.add_zero] at q1
        exact ⟨u, by rw [List.getElem?_take, if_pos hq]; exact q1, q2⟩
      · cases hy)
    rw [goI]
    unfold splice at hf
    rw [hcl] at hf ⊢
    exact hK _ _ (sim_put (v := .c (.t (.int .i64 _))) hf (.int _ _) hd')

theorem y_indexStr {t : TypeId} {x ix : Operand} {s : ByteArray} {k : IntKind} {i : Int} {r : UInt8} (ho : o.op = .index t x ix) (ht : P.underlying t = some .string)
    (hx : st.ev x = .c (.t (.str s))) (hi : st.ev ix = .c (.t (.int k i))) (h0 : 0 ≤ i) (hr : s.data.toList[i.toNat]? = some r) : Yields P cx o st (.c (.t (.int .u8 r.toNat))) := by
  intro L I a w h
  have hv := h.ev x
  rw [hx] at hv
  have hs : a.eval x = .string s := Rep.str_inv hv
  have hlt : i.toNat < s.size := by
    have := (List.getElem?_eq_some_iff.1 hr).1
    simpa using this
  refine ⟨.int .u8 r.toNat, ?_, .int _ _⟩
  have he : s[i.toNat]'hlt = r := by
    obtain ⟨q, hq⟩ := List.getElem?_eq_some_iff.1 hr
    rw [Array.getElem_toList] at hq
    exact hq
  simp [execOp, ho, hs, ev_int h hi, run_index_string w t s k i ht, h0, show i < (s.size : Int) by omega, he]
end

/-- append of nothing onto a nil slice. -/
theorem y_app0 {P : Program} {cx : Cx} {o : Oper} {st : St} {t : TypeId} {s x : Operand} {e sz by' : Nat} {z : Value} (ho : o.op = .call { callee := .builtin .append, args := #[s, x], argTypes := #[t, t] })
    (hi : elemInfo P t = some (e, sz, by', z)) (hs : st.ev s = .c .nil) (hn : NewsA st.hp sz (st.ev x) []) : Yields P cx o st (.c .nil) := by
  intro L I a w h
  obtain ⟨ad, cap, hx, _, _⟩ := hn.R h (h.ev x)
  have hv := h.ev s
  rw [hs] at hv
  obtain ⟨aas, hsv⟩ := hv
  obtain ⟨i, hu, hie, rfl, rfl, hz0, hzs⟩ := elemInfo_spec hi
  have hr : (Builtin.append_ #[t, t] o.type #[.slice aas 0 0, .slice ad 0 cap]).run P w = .ok (.slice aas 0 0) w := by
    cases ad <;> cases aas <;>
      simp [Builtin.append_, run_underlying hu, run_sizeOf hie, Builtin.lenOf, Builtin.firstCells, loadCells, loadCellsFrom, storeCells]
  exact ⟨_, run_append_call ho hsv hx hr, aas, rfl⟩

section
variable {P : Program} {cx : Cx} {o : Oper} {st : St}
/-- A slice literal without elements. -/
theorem ok_lit0 {t : TypeId} {e sz by' : Nat} {z : Value} (ho : o.op = .buildSlice t 0 #[]) (hi : elemInfo P t = some (e, sz, by', z)) : OpOK P cx o st (st.put? o.dst (.c .nil)) := by
  intro hd' a w hs K Q hK
  obtain ⟨L, I, h⟩ := hs
  obtain ⟨i, hu, hie, rfl, rfl, hz0, hzs⟩ := elemInfo_spec hi
  have hrun : (execOp a.eval o).run P w = .ok (.value (.slice (some ⟨w.heap.size, 0, none⟩) 0 0)) (w.alloc (.cells #[] e)) := by
    have hb : (Instr.buildSlice t 0 #[]).run P w = .ok (.slice (some ⟨w.heap.size, 0, none⟩) 0 0) (w.alloc (.cells #[] e)) := by
      simp [Instr.buildSlice, run_underlying hu, sizeOf, typeInfo, hie, Instr.fill, newRow]
      congr 2
      exact Array.eq_empty_of_size_eq_zero (by simp)
    simp [execOp, ho, hb]
  have h' := h.after (I' := I) (w' := w.alloc (.cells #[] e)) ((Below.refl _ _).alloc (Nat.le_refl _) _) (fun _ _ h => h) (fun _ _ h => .inl h) (fun b o hb => by have := h.ib b o hb; simp; omega)
  unfold Oper.wp
  rw [hrun]
  exact hK _ _ (sim_put h' ⟨_, rfl⟩ hd')
end

/-- A new row, told as a tree at once. -/
theorem ok_told {P : Program} {cx : Cx} {o : Oper} {st : St} {j e sz n : Nat} {es : List (List T)} (h : OpOK P cx o st ((st.addB j (.row e sz es 0)).put j (.c (.row j 0 n)))) (hl : es.length = n) (hjn : st.hp.lookup j = none) :
    OpOK P cx o st (st.put j (.c (.t (.sl sz es)))) := by
  subst hl
  intro hd' a w hsim K Q hK
  refine h hd' a w hsim K Q fun a' w' hs' => hK a' w' ?_
  have h1 : ((st.addB j (.row e sz es 0)).put j (.c (.row j 0 es.length))).tm.lookup j = some (.c (.row j 0 es.length)) := by rw [St.put_lookup]; simp
  have h2 := Sim.snap (e := e) (sz := sz) (es := es) (fz := 0) hs' h1 (by show (st.addB j _).hp.lookup j = _; rw [St.addB_lookup, if_pos rfl])
  have h3 : ((es.drop 0).take es.length) = es := by simp
  rw [h3] at h2
  obtain ⟨L, I, h2⟩ := h2
  refine ⟨L, I, h2.sub ?_ ?_ rfl⟩
  · intro k v hv
    rw [St.put_lookup] at hv ⊢
    split at hv
    · rename_i e; subst e; simpa using hv
    · rename_i hne
      rw [if_neg hne]
      show ((st.addB j (.row e sz es 0)).put j (.c (.row j 0 es.length))).tm.lookup k = _
      rw [St.put_lookup, if_neg hne]; exact hv
  · intro k b hb
    have hne : k ≠ j := fun e => by subst e; rw [show (st.put k _).hp.lookup k = st.hp.lookup k from rfl, hjn] at hb; cases hb
    show (((st.addB j (.row e sz es 0)).put j (.c (.row j 0 es.length))).addB j (.row e sz es (max 0 (0 + es.length)))).hp.lookup k = _
    rw [St.addB_lookup, if_neg hne]
    show (st.addB j _).hp.lookup k = _
    rw [St.addB_lookup, if_neg hne]; exact hb

def capOf : V → Option Cap
  | .c (.ptr j k) => some (.ptr j k)
  | .c (.t x) => some (.t x)
  | _ => none

def capsOf : List V → Option (List Cap)
  | [] => some []
  | v :: vs => match capOf v, capsOf vs with
    | some x, some xs => some (x :: xs)
    | _, _ => none

theorem capsOf_spec : ∀ {vs : List V} {xs : List Cap}, capsOf vs = some xs → vs = xs.map capV
  | [], xs, h => by simp only [capsOf] at h; cases h; rfl
  | v :: vs, xs, h => by
    simp only [capsOf] at h
    split at h
    · rename_i x xs' h1 h2
      cases h
      rw [capsOf_spec h2, List.map_cons]
      congr 1
      unfold capOf at h1
      split at h1 <;> cases h1 <;> rfl
    · cases h

/-- What an operation does, when its guard lets it: with the hint, and under the conditions. -/
def infO (P : Program) (st : St) (o : Oper) : H → Option (Inf × List Prop)
  | .p => match o.op with
    | .alloc t => match o.dst, (P.info? t).bind (·.zero) with
      | some j, some z => if z.cells.all (·.oneCell') then some (⟨[], [j], ⟨some (j, .c (.ptr j 0)), some (j, .var (z.cells.toList.map cellOf))⟩⟩, []) else none
      | _, _ => none
    | .box _ x => match o.dst, (st.ev x).cellsL st.hp with
      | some j, some xs => if csFree (some j) xs then some (⟨rkOf st o, [j], ⟨some (j, .c (.ptr j 0)), some (j, .var xs)⟩⟩, []) else none
      | _, _ => none
    | .store t p x => match o.dst, st.ev p with
      | none, .c (.ptr j k) => match st.hp.lookup j, (st.ev x).cellsL st.hp, (P.info? t).map (·.size) with
        | some (.var cs), some xs, some n => if xs.length = n ∧ k + n ≤ cs.length then some (⟨rkOf st o, [], ⟨none, some (j, .var (splice cs k xs))⟩⟩, []) else none
        | _, _, _ => none
      | _, _ => none
    | op => (pureV P st.hp st.ev op).map fun v => (⟨rkOf st o, [], ⟨o.dst.map fun t => (t, v), none⟩⟩, [])
  | .ix el => match o.op with
    | .indexAddr t x ix => match st.ev x, st.ev ix, sliceSz P t with
      | .c (.t (.sl sz es)), .c (.t (.int _ i)), some sz' => if sz = sz' then some (⟨[], [], ⟨o.dst.map fun t => (t, .c (.ep el 0)), none⟩⟩, [0 ≤ i, es[i.toNat]? = some el]) else none
      | _, _, _ => none
    | _ => none
  | .ir => match o.op with
    | .indexAddr t x ix => match st.ev x, st.ev ix, sliceSz P t with
      | .c (.row j off len), .c (.t (.int _ i)), some sz' => match st.hp.lookup j with
        | some (.row _ sz _ _) => if sz = sz' then some (⟨rkOf st o, [], ⟨o.dst.map fun t => (t, .c (.rptr j (off + i.toNat) 0)), none⟩⟩, [0 ≤ i, i < len]) else none
        | _ => none
      | _, _, _ => none
    | _ => none
  | .ld el => match o.op with
    | .load t x => match st.ev x, loadSz P t with
      | .c (.rptr j i k), some (false, _) => match st.hp.lookup j, el[k]? with
        | some (.row _ _ es _), some y => some (⟨rkOf st o, [], ⟨o.dst.map fun t => (t, .c (.t y)), none⟩⟩, [es[i]? = some el])
        | _, _ => none
      | .c (.rptr j i k), some (true, n) => match st.hp.lookup j with
        | some (.row _ _ es _) => if ((el.drop k).take n).length = n then some (⟨rkOf st o, [], ⟨o.dst.map fun t => (t, .agg (((el.drop k).take n).map .t)), none⟩⟩, [es[i]? = some el]) else none
        | _ => none
      | _, _ => none
    | _ => none
  | .st el es' => match o.op, o.dst with
    | .store t p x, none => match st.ev p with
      | .c (.rptr j i k) => match st.hp.lookup j, (st.ev x).cellsL st.hp, (P.info? t).map (·.size) with
        | some (.row e sz es fz), some xs, some n => match treesH (fun _ => 0) 0 xs with
          | some ys => if ys.length = n ∧ k + n ≤ sz then some (⟨rkOf st o, [], ⟨none, some (j, .row e sz es' fz)⟩⟩, [es[i]? = some el, es.set i (splice el k ys) = es', fz ≤ i]) else none
          | none => none
        | _, _, _ => none
      | _ => none
    | _, _ => none
  | .mk zt es' => match o.op, o.dst with
    | .makeSlice t l c, some j => match st.ev l, st.ev c, elemInfo P t with
      | .c (.t (.int _ n)), .c (.t (.int _ m)), some (e, sz, by', z) => if 0 < sz ∧ 0 < by' ∧ zeroOk z.cells.toList zt = true then
          some (⟨[], [j], ⟨some (j, .c (.row j 0 n.toNat)), some (j, .row e sz es' 0)⟩⟩, [0 ≤ n, n ≤ m, (by' : Int) * m ≤ 140737488355328, List.replicate n.toNat zt = es']) else none
      | _, _, _ => none
    | _, _ => none
  | .lit es => match o.op, o.dst with
    | .buildSlice t len parts, some j => match elemInfo P t, evParts st parts.toList with
      | some (e, sz, _, z), some qs => match fillA (fun i => some (i * sz, sz)) (((Array.range (len * sz)).map (z.cells[· % z.cells.size]!)).toList.map cellOf) qs with
        | some ds => match treesH (fun _ => 0) 0 ds with
          | some fl => if 0 < sz ∧ z.cells.all (·.oneCell') = true ∧ 0 < len ∧ len * sz ≤ 16777216 ∧ es.all (fun x => x.length == sz) = true ∧ es.length = len then
              some (⟨rkOf st o, [j], ⟨some (j, .c (.row j 0 len)), some (j, .row e sz es 0)⟩⟩, [fl = es.flatten]) else none
          | none => none
        | none => none
      | _, _ => none
    | _, _ => none
  | .call hss _ res => match o.op with
    | .call { callee := .value x, args, argTypes := _ } => match st.ev x, argsH st hss args.toList with
      | .c (.t (.fn f)), some ys => if callable P f then some (⟨[], [], ⟨o.dst.map fun t => (t, res.toV), none⟩⟩, [Holds P f ys res]) else none
      | _, _ => none
    | _ => none
  | .slT l h es' => match o.op with
    | .slice t x lo hi none => match st.ev x, sliceSz P t with
      | .c (.t (.sl sz es)), some sz' => match bndP st lo 0 l, bndP st hi es.length h with
        | some p, some q => if sz = sz' then some (⟨[], [], ⟨o.dst.map fun t => (t, .c (.t (.sl sz es'))), none⟩⟩, [p, q, l ≤ h, h ≤ es.length, (es.take h).drop l = es']) else none
        | _, _ => none
      | _, _ => none
    | _ => none
  | .slR l h off' len' => match o.op with
    | .slice t x lo hi none => match st.ev x, sliceSz P t with
      | .c (.row j off len), some sz' => match st.hp.lookup j, bndP st lo 0 l, bndP st hi len h with
        | some (.row _ sz _ _), some p, some q => if sz = sz' then some (⟨rkOf st o, [], ⟨o.dst.map fun t => (t, .c (.row j off' len')), none⟩⟩, [p, q, l ≤ h, h ≤ len, l = 0 ∨ l < len, off + l = off', h - l = len']) else none
        | _, _, _ => none
      | .c .nil, some _ => match bndP st lo 0 0, bndP st hi 0 0 with
        | some p, some q => some (⟨[], [], ⟨o.dst.map fun t => (t, .c .nil), none⟩⟩, [p, q])
        | _, _ => none
      | _, _ => none
    | _ => none
  | .sl0 => match o.op with
    | .slice t x none (some y) (some z) => match st.ev x, st.ev y, st.ev z, sliceSz P t with
      | .c (.t (.sl sz _)), .c (.t (.int _ n)), .c (.t (.int _ m)), some sz' => if sz = sz' ∧ n = 0 ∧ m = 0 then some (⟨[], [], ⟨o.dst.map fun t => (t, .c .nil), none⟩⟩, []) else none
      | _, _, _, _ => none
    | _ => none
  | .clip l h m off' len' => match o.op with
    | .slice t x lo (some hi) (some mx) => match st.ev x, sliceSz P t with
      | .c (.row j off len), some sz' => match st.hp.lookup j, bndP st lo 0 l, bndP st (some hi) len h, bndP st (some mx) 0 m with
        | some (.row _ sz _ _), some p, some q, some r => if sz = sz' then some (⟨rkOf st o, [], ⟨o.dst.map fun t => (t, .c (.clip j off' len')), none⟩⟩, [p, q, r, l ≤ h, h ≤ m, m ≤ len, l = 0 ∨ l < m, off + l = off', h - l = len']) else none
        | _, _, _, _ => none
      | _, _ => none
    | _ => none
  | .appN es' => match o.op, o.dst with
    | .call { callee := .builtin .append, args, argTypes }, some j => match args.toList, argTypes.toList with
      | [s, x], [t, t'] => match st.ev s, elemInfo P t with
        | .c .nil, some (e, sz, by', _) => match newsOf st.hp sz (st.ev x) with
          | some es => if t = t' ∧ 0 < sz then some (⟨rkOf st o, [j], ⟨some (j, .c (.row j 0 es'.length)), some (j, .row e sz es' 0)⟩⟩, [es = es', 0 < es'.length, es'.length * by' ≤ 140737488355328, es'.length ≤ maxLen]) else none
          | none => none
        | _, _ => none
      | _, _ => none
    | _, _ => none
  | .ln n => match o.op with
    | .call { callee := .builtin .len, args, argTypes } => match args.toList, argTypes.toList with
      | [x], [t] => match st.ev x with
        | .c (.t (.sl _ es)) => if (sliceSz P t).isSome then some (⟨[], [], ⟨o.dst.map fun d => (d, intV .i64 n), none⟩⟩, [(es.length : Int) = n]) else none
        | _ => none
      | _, _ => none
    | _ => none
  | .dv => match o.op with
    | .binOp op _ x y _ => match st.ev x, st.ev y with
      | .c (.t (.int k m)), .c (.t (.int k' n)) => match op with
        | .quo => if k = k' then some (⟨[], [], ⟨o.dst.map fun d => (d, intV k (k.wrap (m.tdiv n))), none⟩⟩, [n ≠ 0]) else none
        | .rem => if k = k' then some (⟨[], [], ⟨o.dst.map fun d => (d, intV k (m.tmod n)), none⟩⟩, [n ≠ 0]) else none
        | .shl => some (⟨[], [], ⟨o.dst.map fun d => (d, intV k (shlOp k m n)), none⟩⟩, [0 ≤ n])
        | .shr => some (⟨[], [], ⟨o.dst.map fun d => (d, intV k (shrOp k m n)), none⟩⟩, [0 ≤ n])
        | _ => none
      | _, _ => none
    | _ => none
  | .sx r => match o.op with
    | .index t x ix => match st.ev x, st.ev ix with
      | .c (.t (.str s)), .c (.t (.int _ i)) => if isStr P t = true then some (⟨[], [], ⟨o.dst.map fun d => (d, intV .u8 r), none⟩⟩, [0 ≤ i, (s.data.toList.map fun c => (c.toNat : Int))[i.toNat]? = some r]) else none
      | _, _ => none
    | _ => none
  | .cp es2 es' n => match o.op with
    | .call { callee := .builtin .copy, args, argTypes } => match args.toList, argTypes.toList with
      | [d, x], [t, _] => match st.ev d, elemInfo P t with
        | .c (.row j off len), some (e, 1, _, _) => match st.hp.lookup j, newsOf st.hp 1 (st.ev x) with
          | some (.row e' 1 es 0), some new => if e = e' then some (⟨rkOf st o, [], ⟨o.dst.map fun q => (q, intV .i64 n), some (j, .row e 1 es' 0)⟩⟩, [new = es2, splice es off (es2.take (min es2.length len)) = es', ((min es2.length len : Nat) : Int) = n]) else none
          | _, _ => none
        | _, _ => none
      | _, _ => none
    | _ => none
  | .slM l h m es' => match o.op with
    | .slice t x lo (some hi) (some mx) => match st.ev x, sliceSz P t with
      | .c (.t (.sl sz es)), some sz' => match bndP st lo 0 l, bndP st (some hi) es.length h, bndP st (some mx) 0 m with
        | some p, some q, some r => if sz = sz' then some (⟨[], [], ⟨o.dst.map fun t => (t, .c (.t (.sl sz es'))), none⟩⟩, [p, q, r, l ≤ h, h ≤ m, m ≤ es.length, (es.take h).drop l = es']) else none
        | _, _, _ => none
      | _, _ => none
    | _ => none
  | .litT es => match o.op, o.dst with
    | .buildSlice t len parts, some j => match elemInfo P t, evParts st parts.toList, st.hp.lookup j with
      | some (_, sz, _, z), some qs, none => match fillA (fun i => some (i * sz, sz)) (((Array.range (len * sz)).map (z.cells[· % z.cells.size]!)).toList.map cellOf) qs with
        | some ds => match treesH (fun _ => 0) 0 ds with
          | some fl => if 0 < sz ∧ z.cells.all (·.oneCell') = true ∧ 0 < len ∧ len * sz ≤ 16777216 ∧ es.all (fun x => x.length == sz) = true ∧ es.length = len then
              some (⟨j :: rkOf st o, [j], ⟨some (j, .c (.t (.sl sz es))), none⟩⟩, [fl = es.flatten]) else none
          | none => none
        | none => none
      | _, _, _ => none
    | _, _ => none
  | .clo => match o.op with
    | .makeFunc (.func f) first captured => match capsOf (captured.toList.map st.ev) with
      | some caps => if first = #[] then some (⟨[], [], ⟨o.dst.map fun t => (t, .c (.fn f caps)), none⟩⟩, []) else none
      | none => none
    | _ => none
  | .app0 => match o.op with
    | .call { callee := .builtin .append, args, argTypes } => match args.toList, argTypes.toList with
      | [s, x], [t, t'] => match st.ev s, elemInfo P t with
        | .c .nil, some (_, sz, _, _) => match newsOf st.hp sz (st.ev x) with
          | some new => if t = t' then some (⟨rkOf st o, [], ⟨o.dst.map fun q => (q, .c .nil), none⟩⟩, [new = []]) else none
          | none => none
        | _, _ => none
      | _, _ => none
    | _ => none
  | .pk b => match o.op with
    | .pick c x y => match st.ev c with
      | .c (.t (.bool b')) => some (⟨[], [], ⟨o.dst.map fun t => (t, match b with | true => st.ev x | false => st.ev y), none⟩⟩, [b' = b])
      | _ => none
    | _ => none
  | .ia n => match o.op with
    | .indexAddr t x ix => match st.ev x, st.ev ix, arrSz P t with
      | .c (.ptr j q), .c (.t (.int _ i)), some (m, sz) => if n < m ∧ (st.hp.lookup j).isSome then some (⟨rkOf st o, [], ⟨o.dst.map fun t => (t, .c (.ptr j (q + n * sz))), none⟩⟩, [i = (n : Int)]) else none
      | .c (.ep el q), .c (.t (.int _ i)), some (m, sz) => if n < m then some (⟨rkOf st o, [], ⟨o.dst.map fun t => (t, .c (.ep el (q + n * sz))), none⟩⟩, [i = (n : Int)]) else none
      | .c (.rptr j r q), .c (.t (.int _ i)), some (m, sz) => match st.hp.lookup j with
        | some (.row ..) => if n < m then some (⟨rkOf st o, [], ⟨o.dst.map fun t => (t, .c (.rptr j r (q + n * sz))), none⟩⟩, [i = (n : Int)]) else none
        | _ => none
      | _, _, _ => none
    | _ => none
  | .lit0 => match o.op with
    | .buildSlice t 0 parts => match elemInfo P t with
      | some _ => if parts = #[] then some (⟨[], [], ⟨o.dst.map fun q => (q, .c .nil), none⟩⟩, []) else none
      | none => none
    | _ => none
  | _ => none

section
variable {P : Program} {cx : Cx} {o : Oper} {st : St}

theorem agreeB_rk {σ : St} (h : AgreeB st σ (rkOf st o)) {x : Operand} (hx : x ∈ o.op.operands.toList) {j : Nat} (hj : j ∈ (st.ev x).keys) : σ.hp.lookup j = st.hp.lookup j :=
  agreeB_get h j (by simp only [rkOf, List.mem_flatMap]; exact ⟨x, hx, hj⟩)

theorem newsOf_congr {hp hp' : List (Nat × Blk)} {sz : Nat} {v : V} (h : ∀ j ∈ v.keys, hp'.lookup j = hp.lookup j) : newsOf hp' sz v = newsOf hp sz v := by
  cases v with
  | c x =>
    cases x with
    | row j off len => simp only [newsOf]; rw [h j (by simp [V.keys, C.keys])]
    | clip j off len => simp only [newsOf]; rw [h j (by simp [V.keys, C.keys])]
    | t y => cases y <;> rfl
    | _ => rfl
  | agg => rfl
  | tup => rfl

theorem eff_any {v : V} {rk : List Nat} {u : Upd} (hu : u = ⟨o.dst.map fun t => (t, v), none⟩) (h : ∀ σ, AgreeEv st σ o.op.operands.toList → AgreeB st σ rk → Yields P cx o σ v) : Eff P cx o st rk [] u := by
  subst hu; exact eff_val h

theorem infO_ok : ∀ {h : H} {i : Inf} {φs : List Prop}, infO P st o h = some (i, φs) → AllP φs → Eff P cx o st i.rk i.fresh i.u
  | .p, i, φs, h, _ => by
    simp only [infO] at h
    split at h
    · rename_i t hop
      split at h
      · rename_i j z hd hz
        split at h
        · rename_i hc; cases h; exact eff_alloc hop hd hz hc rfl
        · cases h
      · cases h
    · rename_i t x hop
      split at h
      · rename_i j xs hd hx
        split at h
        · rename_i hc; cases h; exact eff_box hop hd hx (rkOf_ok st o) hc
        · cases h
      · cases h
    · rename_i t p x hop
      split at h
      · rename_i j k hd hp
        split at h
        · rename_i cs xs n hj hx hn
          split at h
          · rename_i hc
            cases h
            exact eff_store hop hd hp hj hx hc.1 hn hc.2 (rkOf_ok st o)
          · cases h
        · cases h
      · cases h
    · obtain ⟨v, h1, h2⟩ := Option.map_eq_some_iff.1 h
      cases h2
      exact eff_pure h1 (rkOf_ok st o)
  | .ix el, i, φs, h, hφ => by
    simp only [infO] at h
    split at h
    · rename_i t x ix hop
      split at h
      · rename_i sz es k n sz' hx hi hs
        split at h
        · rename_i e; subst e
          cases h
          obtain ⟨h0, he, _⟩ := hφ
          exact eff_val fun σ hev _ => y_indexI hop hs ((agreeEv_get hev x (by rw [hop]; simp [Op.operands])).trans hx) ((agreeEv_get hev ix (by rw [hop]; simp [Op.operands])).trans hi) h0 he
        · cases h
      · cases h
    · cases h
  | .ir, i, φs, h, hφ => by
    simp only [infO] at h
    split at h
    · rename_i t x ix hop
      split at h
      · rename_i j off len k n sz' hx hi hs
        split at h
        · rename_i hj
          split at h
          · rename_i e; subst e
            cases h
            obtain ⟨h0, h1, _⟩ := hφ
            have hxo : x ∈ o.op.operands.toList := by rw [hop]; simp [Op.operands]
            exact eff_val fun σ hev hb => y_index hop hs ((agreeEv_get hev x hxo).trans hx) ((agreeB_rk hb hxo (by rw [hx]; simp [V.keys, C.keys])).trans hj) ((agreeEv_get hev ix (by rw [hop]; simp [Op.operands])).trans hi) h0 h1
          · cases h
        · cases h
      · cases h
    · cases h
  | .ld el, i, φs, h, hφ => by
    simp only [infO] at h
    split at h
    · rename_i t x hop
      have hxo : x ∈ o.op.operands.toList := by rw [hop]; simp [Op.operands]
      split at h
      · rename_i j q k n hx hl
        split at h
        · rename_i y hj hy
          cases h
          exact eff_val fun σ hev hb => y_loadR hop hl ((agreeEv_get hev x hxo).trans hx) ((agreeB_rk hb hxo (by rw [hx]; simp [V.keys, C.keys])).trans hj) hφ.1 hy
        · cases h
      · rename_i j q k n hx hl
        split at h
        · rename_i hj
          split at h
          · rename_i hn
            cases h
            exact eff_val fun σ hev hb => y_loadRA hop hl ((agreeEv_get hev x hxo).trans hx) ((agreeB_rk hb hxo (by rw [hx]; simp [V.keys, C.keys])).trans hj) hφ.1 rfl hn
          · cases h
        · cases h
      · cases h
    · cases h
  | .st el es', i, φs, h, hφ => by
    simp only [infO] at h
    split at h
    · rename_i t p x hop hd
      split at h
      · rename_i j q k hp
        split at h
        · rename_i e sz es fz xs n hj hx hn
          split at h
          · rename_i ys hy
            split at h
            · rename_i hc
              cases h
              obtain ⟨h1, h2, h3, _⟩ := hφ
              subst h2
              exact eff_storeR _ hop hd hp hj h1 hx hy hc.1 hn hc.2 h3 (rkOf_ok st o)
            · cases h
          · cases h
        · cases h
      · cases h
    · cases h
  | .mk zt es', i, φs, h, hφ => by
    simp only [infO] at h
    split at h
    · rename_i t l c j hop hd
      split at h
      · rename_i kl n kc m e sz by' z hl hc hi
        split at h
        · rename_i hh
          cases h
          obtain ⟨h0, h1, h2, h3, _⟩ := hφ
          subst h3
          obtain ⟨h4, h5, h6⟩ := hh
          intro σ hev _ hf
          have hm : m ≤ (by' : Int) * m := by
            have h7 : (1 : Int) ≤ (by' : Int) := by omega
            have := Int.mul_le_mul_of_nonneg_right h7 (show (0 : Int) ≤ m by omega)
            omega
          exact ok_make hop hd ((agreeEv_get hev l (by rw [hop]; simp [Op.operands])).trans hl) ((agreeEv_get hev c (by rw [hop]; simp [Op.operands])).trans hc) h0 h1 (by omega) (by omega) hi h4 h6 (hf j (by simp))
        · cases h
      · cases h
    · cases h
  | .lit es, i, φs, h, hφ => by
    simp only [infO] at h
    split at h
    · rename_i t len parts j hop hd
      split at h
      · rename_i e sz by' z qs hi hq
        split at h
        · rename_i ds hfl
          split at h
          · rename_i fl htr
            split at h
            · rename_i hc
              cases h
              obtain ⟨h1, h2, h3, h4, h5, h6⟩ := hc
              have hfe := hφ.1
              subst hfe
              exact eff_lit _ hop hd hi h1 h2 h3 h4 hq hfl htr (fun x hx => by simpa using List.all_eq_true.1 h5 x hx) h6 (rkOf_ok st o)
            · cases h
          · cases h
        · cases h
      · cases h
    · cases h
  | .call hss ys res, i, φs, h, hφ => by
    simp only [infO] at h
    split at h
    · rename_i x args tys hop
      split at h
      · rename_i f ys hx ha
        split at h
        · rename_i hc
          cases h
          have hop' : o.op = .call { callee := .value x, args := args.toList.toArray, argTypes := tys } := by simpa using hop
          exact eff_call hop' hx hc ha hφ.1
        · cases h
      · cases h
    · cases h
  | .slT l hh es', i, φs, h, hφ => by
    simp only [infO] at h
    split at h
    · rename_i t x lo hi hop
      split at h
      · rename_i sz es sz' hx hs
        split at h
        · rename_i p q hp hq
          split at h
          · rename_i e; subst e
            cases h
            obtain ⟨h1, h2, h3, h4, h5, _⟩ := hφ
            subst h5
            exact eff_val fun σ hev _ => y_sliceT hop hs ((agreeEv_get hev x (by rw [hop]; simp [Op.operands])).trans hx)
              (bndP_spec hp h1 fun y hy => agreeEv_get hev y (by rw [hop]; subst hy; simp [Op.operands]))
              (bndP_spec hq h2 fun y hy => agreeEv_get hev y (by rw [hop]; subst hy; simp [Op.operands])) (.inl rfl) (m := 0) h3 h4
          · cases h
        · cases h
      · cases h
    · cases h
  | .slR l hh off' len', i, φs, h, hφ => by
    simp only [infO] at h
    split at h
    · rename_i t x lo hi hop
      have hxo : x ∈ o.op.operands.toList := by rw [hop]; simp [Op.operands]
      split at h
      · rename_i j off len sz' hx hs
        split at h
        · rename_i p q hj hp hq
          split at h
          · rename_i e; subst e
            cases h
            obtain ⟨h1, h2, h3, h4, h5, h6, h7, _⟩ := hφ
            subst h6; subst h7
            exact eff_val fun σ hev hb => y_sliceR hop hs ((agreeEv_get hev x hxo).trans hx) ((agreeB_rk hb hxo (by rw [hx]; simp [V.keys, C.keys])).trans hj)
              (bndP_spec hp h1 fun y hy => agreeEv_get hev y (by rw [hop]; subst hy; simp [Op.operands]))
              (bndP_spec hq h2 fun y hy => agreeEv_get hev y (by rw [hop]; subst hy; simp [Op.operands])) h3 h4 h5
          · cases h
        · cases h
      · rename_i sz' hx hs
        split at h
        · rename_i p q hp hq
          cases h
          obtain ⟨h1, h2, _⟩ := hφ
          exact eff_val fun σ hev hb => y_sliceN hop hs ((agreeEv_get hev x hxo).trans hx)
              (bndP_spec hp h1 fun y hy => agreeEv_get hev y (by rw [hop]; subst hy; simp [Op.operands]))
              (bndP_spec hq h2 fun y hy => agreeEv_get hev y (by rw [hop]; subst hy; simp [Op.operands]))
        · cases h
      · cases h
    · cases h
  | .sl0, i, φs, h, _ => by
    simp only [infO] at h
    split at h
    · rename_i t x y z hop
      split at h
      · rename_i sz es k n k' m sz' hx hy hz hs
        split at h
        · rename_i hc
          obtain ⟨rfl, rfl, rfl⟩ := hc
          cases h
          exact eff_val fun σ hev _ => y_slice0 hop hs ((agreeEv_get hev x (by rw [hop]; simp [Op.operands])).trans hx) ((agreeEv_get hev y (by rw [hop]; simp [Op.operands])).trans hy) ((agreeEv_get hev z (by rw [hop]; simp [Op.operands])).trans hz)
        · cases h
      · cases h
    · cases h
  | .clip l hh m off' len', i, φs, h, hφ => by
    simp only [infO] at h
    split at h
    · rename_i t x lo hi mx hop
      have hxo : x ∈ o.op.operands.toList := by rw [hop]; simp [Op.operands]
      split at h
      · rename_i j off len sz' hx hs
        split at h
        · rename_i p q r hj hp hq hr
          split at h
          · rename_i e; subst e
            cases h
            obtain ⟨h1, h2, h3, h4, h5, h6, h7, h8, h9, _⟩ := hφ
            subst h8; subst h9
            exact eff_val fun σ hev hb => y_sliceRm hop hs ((agreeEv_get hev x hxo).trans hx) ((agreeB_rk hb hxo (by rw [hx]; simp [V.keys, C.keys])).trans hj)
              (bndP_spec hp h1 fun y hy => agreeEv_get hev y (by rw [hop]; subst hy; simp [Op.operands]))
              (bndP_spec hq h2 fun y hy => agreeEv_get hev y (by rw [hop]; cases hy; simp [Op.operands])) rfl rfl
              (bndP_spec hr h3 fun y hy => agreeEv_get hev y (by rw [hop]; cases hy; simp [Op.operands])) h4 h5 h6 h7
          · cases h
        · cases h
      · cases h
    · cases h
  | .appN es', i, φs, h, hφ => by
    simp only [infO] at h
    split at h
    · rename_i args tys j hop hd
      split at h
      · rename_i s x t t' ha ht
        have ha' : args = #[s, x] := by rw [← Array.toArray_toList (xs := args), ha]
        have ht' : tys = #[t, t'] := by rw [← Array.toArray_toList (xs := tys), ht]
        subst ha'; subst ht'
        split at h
        · rename_i e sz by' z hs hi
          split at h
          · rename_i es hn
            split at h
            · rename_i hc
              obtain ⟨rfl, hsz⟩ := hc
              cases h
              obtain ⟨h1, h2, h3, h4, _⟩ := hφ
              subst h1
              intro σ hev hb hf
              have hso : s ∈ o.op.operands.toList := by rw [hop]; simp [Op.operands, Call.operands]
              have hxo : x ∈ o.op.operands.toList := by rw [hop]; simp [Op.operands, Call.operands]
              refine ok_app_nil hop hd hi hsz ((agreeEv_get hev s hso).trans hs) (newsOf_spec ?_) h2 h3 h4 (hf j (by simp))
              rw [agreeEv_get hev x hxo, newsOf_congr fun k hk => agreeB_rk hb hxo hk]
              exact hn
            · cases h
          · cases h
        · cases h
      · cases h
    · cases h
  | .ln n, i, φs, h, hφ => by
    simp only [infO] at h
    split at h
    · rename_i args tys hop
      split at h
      · rename_i x t ha ht
        have ha' : args = #[x] := by rw [← Array.toArray_toList (xs := args), ha]
        have ht' : tys = #[t] := by rw [← Array.toArray_toList (xs := tys), ht]
        subst ha'; subst ht'
        split at h
        · rename_i sz es hx
          split at h
          · rename_i hs
            obtain ⟨sz', hs⟩ := Option.isSome_iff_exists.1 hs
            cases h
            rw [← hφ.1]
            exact eff_val fun σ hev _ => y_lenT hop hs ((agreeEv_get hev x (by rw [hop]; simp [Op.operands, Call.operands])).trans hx)
          · cases h
        · cases h
      · cases h
    · cases h
  | .dv, i, φs, h, hφ => by
    simp only [infO] at h
    split at h
    · rename_i op t x y t' hop
      have hxo : x ∈ o.op.operands.toList := by rw [hop]; simp [Op.operands]
      have hyo : y ∈ o.op.operands.toList := by rw [hop]; simp [Op.operands]
      split at h
      · rename_i k m k' n hx hy
        split at h
        · split at h
          · rename_i e; subst e; cases h
            exact eff_val fun σ hev _ => y_quo hop ((agreeEv_get hev x hxo).trans hx) ((agreeEv_get hev y hyo).trans hy) hφ.1
          · cases h
        · split at h
          · rename_i e; subst e; cases h
            exact eff_val fun σ hev _ => y_rem hop ((agreeEv_get hev x hxo).trans hx) ((agreeEv_get hev y hyo).trans hy) hφ.1
          · cases h
        · cases h
          exact eff_val fun σ hev _ => y_shl hop ((agreeEv_get hev x hxo).trans hx) ((agreeEv_get hev y hyo).trans hy) hφ.1
        · cases h
          exact eff_val fun σ hev _ => y_shr hop ((agreeEv_get hev x hxo).trans hx) ((agreeEv_get hev y hyo).trans hy) hφ.1
        · cases h
      · cases h
    · cases h
  | .sx r, i, φs, h, hφ => by
    simp only [infO] at h
    split at h
    · rename_i t x ix hop
      split at h
      · rename_i s k n hx hi
        split at h
        · rename_i ht
          cases h
          obtain ⟨h0, h1, _⟩ := hφ
          rw [List.getElem?_map, Option.map_eq_some_iff] at h1
          obtain ⟨c, h2, rfl⟩ := h1
          exact eff_val fun σ hev _ => y_indexStr hop (isStr_spec ht) ((agreeEv_get hev x (by rw [hop]; simp [Op.operands])).trans hx) ((agreeEv_get hev ix (by rw [hop]; simp [Op.operands])).trans hi) h0 h2
        · cases h
      · cases h
    · cases h
  | .cp es2 es' n, i, φs, h, hφ => by
    simp only [infO] at h
    split at h
    · rename_i args tys hop
      split at h
      · rename_i d x t t' ha ht
        have ha' : args = #[d, x] := by rw [← Array.toArray_toList (xs := args), ha]
        have ht' : tys = #[t, t'] := by rw [← Array.toArray_toList (xs := tys), ht]
        subst ha'; subst ht'
        split at h
        · rename_i j off len e by' z hs hi
          split at h
          · rename_i e' es new hj hn
            split at h
            · rename_i e; subst e
              cases h
              obtain ⟨h1, h2, h3, _⟩ := hφ
              subst h1; subst h2; subst h3
              intro σ hev hb _
              have hdo : d ∈ o.op.operands.toList := by rw [hop]; simp [Op.operands, Call.operands]
              have hxo : x ∈ o.op.operands.toList := by rw [hop]; simp [Op.operands, Call.operands]
              have hn' := newsOf_congr (hp := st.hp) (hp' := σ.hp) (sz := 1) (v := st.ev x) (fun k hk => agreeB_rk hb hxo hk)
              have := ok_copy (cx := cx) (st := σ) hop hi ((agreeEv_get hev d hdo).trans hs) ((agreeB_rk hb hdo (by rw [hs]; simp [V.keys, C.keys])).trans hj) (newsOf_spec (by rw [agreeEv_get hev x hxo, hn']; exact hn))
              cases hd : o.dst with
              | none => rw [hd] at this; exact this
              | some q => rw [hd] at this; exact this
            · cases h
          · cases h
        · cases h
      · cases h
    · cases h
  | .slM l hh m es', i, φs, h, hφ => by
    simp only [infO] at h
    split at h
    · rename_i t x lo hi mx hop
      split at h
      · rename_i sz es sz' hx hs
        split at h
        · rename_i p q r hp hq hr
          split at h
          · rename_i e; subst e
            cases h
            obtain ⟨h1, h2, h3, h4, h5, h6, h7, _⟩ := hφ
            subst h7
            exact eff_val fun σ hev _ => y_sliceT hop hs ((agreeEv_get hev x (by rw [hop]; simp [Op.operands])).trans hx)
              (bndP_spec hp h1 fun y hy => agreeEv_get hev y (by rw [hop]; subst hy; simp [Op.operands]))
              (bndP_spec hq h2 fun y hy => agreeEv_get hev y (by rw [hop]; cases hy; simp [Op.operands]))
              (.inr ⟨rfl, rfl, bndP_spec hr h3 fun y hy => agreeEv_get hev y (by rw [hop]; cases hy; simp [Op.operands]), h5, h6⟩) h4 (by omega)
          · cases h
        · cases h
      · cases h
    · cases h
  | .litT es, i, φs, h, hφ => by
    simp only [infO] at h
    split at h
    · rename_i t len parts j hop hd
      split at h
      · rename_i e sz by' z qs hi hq hjn
        split at h
        · rename_i ds hfl
          split at h
          · rename_i fl htr
            split at h
            · rename_i hc
              cases h
              obtain ⟨h1, h2, h3, h4, h5, h6⟩ := hc
              have hfe := hφ.1
              subst hfe
              intro σ hev hb hf
              have he := eff_lit (cx := cx) _ hop hd hi h1 h2 h3 h4 hq hfl htr (fun x hx => by simpa using List.all_eq_true.1 h5 x hx) h6 (rkOf_ok st o) σ hev hb.2 hf
              exact ok_told he h6 (hb.1.trans hjn)
            · cases h
          · cases h
        · cases h
      · cases h
    · cases h
  | .clo, i, φs, h, _ => by
    simp only [infO] at h
    split at h
    · rename_i f first captured hop
      split at h
      · rename_i caps hc
        split at h
        · rename_i e; subst e
          cases h
          refine eff_val fun σ hev _ => y_closure hop ?_
          rw [← capsOf_spec hc]
          apply List.map_congr_left
          intro x hx
          exact agreeEv_get hev x (by rw [hop]; simp [Op.operands]; exact Array.mem_toList_iff.1 hx)
        · cases h
      · cases h
    · cases h
  | .app0, i, φs, h, hφ => by
    simp only [infO] at h
    split at h
    · rename_i args tys hop
      split at h
      · rename_i s x t t' ha ht
        have ha' : args = #[s, x] := by rw [← Array.toArray_toList (xs := args), ha]
        have ht' : tys = #[t, t'] := by rw [← Array.toArray_toList (xs := tys), ht]
        subst ha'; subst ht'
        split at h
        · rename_i e sz by' z hs hi
          split at h
          · rename_i new hn
            split at h
            · rename_i e; subst e
              cases h
              have h1 := hφ.1
              subst h1
              have hso : s ∈ o.op.operands.toList := by rw [hop]; simp [Op.operands, Call.operands]
              have hxo : x ∈ o.op.operands.toList := by rw [hop]; simp [Op.operands, Call.operands]
              exact eff_val fun σ hev hb => y_app0 hop hi ((agreeEv_get hev s hso).trans hs) (newsOf_spec (by rw [agreeEv_get hev x hxo, newsOf_congr fun k hk => agreeB_rk hb hxo hk]; exact hn))
            · cases h
          · cases h
        · cases h
      · cases h
    · cases h
  | .pk b, i, φs, h, hφ => by
    simp only [infO] at h
    split at h
    · rename_i c x y hop
      split at h
      · rename_i b' hc
        cases h
        obtain ⟨rfl, _⟩ := hφ
        have e1 : c ∈ o.op.operands.toList := by rw [hop]; simp [Op.operands]
        have e2 : x ∈ o.op.operands.toList := by rw [hop]; simp [Op.operands]
        have e3 : y ∈ o.op.operands.toList := by rw [hop]; simp [Op.operands]
        refine eff_val fun σ hev _ => ?_
        cases b' with
        | true => exact y_pick (b := true) hop ((agreeEv_get hev c e1).trans hc) (agreeEv_get hev x e2)
        | false => exact y_pick (b := false) hop ((agreeEv_get hev c e1).trans hc) (agreeEv_get hev y e3)
      · cases h
    · cases h
  | .ia n, i, φs, h, hφ => by
    simp only [infO] at h
    split at h
    · rename_i t x ix hop
      have hxo : x ∈ o.op.operands.toList := by rw [hop]; simp [Op.operands]
      have hio : ix ∈ o.op.operands.toList := by rw [hop]; simp [Op.operands]
      split at h
      · rename_i j q k m n' sz hx hi hs
        split at h
        · rename_i hc
          cases h
          obtain ⟨rfl, _⟩ := hφ
          refine eff_val fun σ hev hb => ?_
          have hj := agreeB_rk hb hxo (j := j) (by rw [hx]; simp [V.keys, C.keys])
          have := y_indexA (cx := cx) (st := σ) hop hs ((agreeEv_get hev x hxo).trans hx) (by rw [hj]; exact hc.2) ((agreeEv_get hev ix hio).trans hi) (by omega) (by omega)
          simpa using this
        · cases h
      · rename_i el q k m n' sz hx hi hs
        split at h
        · rename_i hc
          cases h
          obtain ⟨rfl, _⟩ := hφ
          refine eff_val fun σ hev hb => ?_
          have := y_indexAI (cx := cx) (st := σ) hop hs ((agreeEv_get hev x hxo).trans hx) ((agreeEv_get hev ix hio).trans hi) (by omega) (by omega)
          simpa using this
        · cases h
      · rename_i j r q k m n' sz hx hi hs
        split at h
        · rename_i hj
          split at h
          · rename_i hc
            cases h
            obtain ⟨rfl, _⟩ := hφ
            refine eff_val fun σ hev hb => ?_
            have hj' := agreeB_rk hb hxo (j := j) (by rw [hx]; simp [V.keys, C.keys])
            have := y_indexAR (cx := cx) (st := σ) hop hs ((agreeEv_get hev x hxo).trans hx) (hj'.trans hj) ((agreeEv_get hev ix hio).trans hi) (by omega) (by omega)
            simpa using this
          · cases h
        · cases h
      · cases h
    · cases h
  | .lit0, i, φs, h, _ => by
    simp only [infO] at h
    split at h
    · rename_i t parts hop
      split at h
      · rename_i x hi
        split at h
        · rename_i e; subst e
          cases h
          obtain ⟨e, sz, by', z⟩ := x
          intro σ _ _ _
          rw [app_dst]
          exact ok_lit0 hop hi
        · cases h
      · cases h
    · cases h
end
end Go.Am
namespace Go.Am
open Go.RowKit (Below)

def PostN (I : Nat → Nat → Prop) (w : World) (e sz : Nat) (r : Option (List (List T))) (en : Ending) (w' : World) : Prop :=
  Below w.heap.size w w' ∧ ∃ I' : Nat → Nat → Prop, (∀ b o, I b o → I' b o) ∧ (∀ b o, I' b o → I b o ∨ w.heap.size ≤ b) ∧ (∀ b o, I' b o → b < w'.heap.size) ∧
      match r with
      | none => ∃ ad, en = .returned (.slice ad 0 0)
      | some es => ∃ b cap c, en = .returned (.slice (some ⟨b, 0, none⟩) es.length cap) ∧ w.heap.size ≤ b ∧ (∀ o, ¬ I' b o) ∧ 0 < sz ∧ es.length ≤ cap ∧ cap ≤ maxLen ∧ (∀ x ∈ es, x.length = sz) ∧
          w'.heap[b]? = some (.cells c e (0, 0)) ∧ c.size = cap * sz ∧ ∀ i k x t, es[i]? = some x → x[k]? = some t → ∃ v, c[i * sz + k]? = some v ∧ Rep w' I' v t

def HoldsN (P : Program) (f : FuncId) (args : List TV) (e sz : Nat) (r : Option (List (List T))) : Prop :=
  ∀ (I : Nat → Nat → Prop) (w : World) (vs : List Value), (∀ b o, I b o → b < w.heap.size) → TVRs w I vs args → Calls P f vs.toArray w (PostN I w e sz r)

def EndsN (P : Program) (f : FuncId) (e sz : Nat) (r : Option (List (List T))) (en : Exit) (s : St) : Prop :=
  (en = .ret ∨ en = .normal) ∧ match r with
    | none => endV P f s = some (.c .nil)
    | some es => ∃ j es0, endV P f s = some (.c (.row j 0 es.length)) ∧ s.hp.lookup j = some (.row e sz es0 0) ∧ es0.take es.length = es

section
variable {P : Program} {cx : Cx} {o : Oper} {st : St} {L : Loc} {I : Nat → Nat → Prop} {a : Act} {w : World}

theorem holdsN_of {f : FuncId} {n e sz : Nat} {args : List TV} {r : Option (List (List T))} (hok : okFn P f n = true) (hl : args.length ≤ n)
    (h : ∀ cx : Cx, cx.n = n → AW P cx (codeOf P f) (St.init args) (EndsN P f e sz r)) : HoldsN P f args e sz r := by
  unfold okFn at hok
  split at hok
  · rename_i fn hfn
    simp only [Bool.and_eq_true, beq_iff_eq] at hok
    obtain ⟨c, hc⟩ := Option.isSome_iff_exists.1 hok.1
    have hbody : codeOf P f = c := by unfold codeOf; rw [hfn]; show fn.body.getD .skip = c; rw [hc]; rfl
    rw [hbody] at h
    have hn := hok.2
    intro I w vs hI hvs
    refine calls_of_wp hfn hc ?_
    let cx : Cx := ⟨w, I, [], n⟩
    have hlen : vs.length = args.length := by have := VRs.length hvs; simpa using this
    have hsim : Sim cx (St.init args) { tmps := vs.toArray ++ Array.replicate (fn.ntmps - vs.toArray.size) undef, defers := [] } w := by
      refine ⟨L0, I, ?_⟩
      exact {
        below := Below.refl _ _
        i0 := fun _ _ h => h
        i1 := fun _ _ h => .inl h
        ib := hI
        inj := fun j j' b b' h => by simp [St.init] at h
        hp := fun j b h => by simp [St.init] at h
        tm := fun t v ht => by
          obtain ⟨_, x, h1, rfl⟩ := idxTM_lookup args 0 t v ht
          simp only [Nat.sub_zero] at h1
          have hx : (args.map TV.toV)[t]? = some x.toV := by simp [h1]
          obtain ⟨u, g1, g2⟩ := VRs.get hvs hx
          have htl : t < vs.length := (List.getElem?_eq_some_iff.1 g1).1
          refine ⟨?_, by show t < n; omega⟩
          have : (vs.toArray ++ Array.replicate (fn.ntmps - vs.toArray.size) undef).getD t undef = u := by
            have e1 : (vs.toArray ++ Array.replicate (fn.ntmps - vs.toArray.size) undef)[t]? = some u := by
              rw [Array.getElem?_append_left (by simpa using htl)]; simpa using g1
            simp only [Array.getD_eq_getD_getElem?, e1, Option.getD_some]
          rw [this]
          exact VR.reT g2
        ex := trivial
        defers := rfl
        size := by simp [hn]; show _ = n; omega }
    refine wp_mono (h cx rfl _ w hsim) ?_
    intro en a' w' ⟨s, hq, L, I', hs⟩
    obtain ⟨he, hq⟩ := hq
    have run : ∀ {x : V}, endV P f s = some x → ∃ v, (results fn a'.tmps).run P w' = .ok v w' ∧ VR w' L s.hp I' v x := by
      intro x hend
      unfold endV at hend
      rw [hfn] at hend
      simp only at hend
      split at hend
      · rename_i rr hr
        obtain ⟨v, g1, g2⟩ := resV_R (P := P) hs hend
        refine ⟨v, ?_, g2⟩
        have hm : (fn.results.mapM (resSem a')).run P w' = .ok #[v] w' := by
          rw [Array.mapM_eq_mapM_toList, hr]
          simp only [List.mapM_cons, List.mapM_nil, Sem.run_map, Sem.run_bind, g1, Result.andThen_ok]
          rfl
        have he : results fn a'.tmps = (fn.results.mapM (resSem a')) >>= fun vs => pure (if h : vs.size = 1 then vs[0] else .tuple vs) := by
          unfold results
          congr 1
        rw [he, Sem.run_bind, hm]
        rfl
      · cases hend
    have fin : a'.defers = [] ∧ ∃ v, (results fn a'.tmps).run P w' = .ok v w' ∧ PostN I w e sz r (.returned v) w' := by
      cases r with
      | none =>
        obtain ⟨v, g1, g2⟩ := run hq
        obtain ⟨ad, hv⟩ := g2
        exact ⟨hs.defers, v, g1, hs.below, I', hs.i0, hs.i1, hs.ib, ad, by rw [hv]⟩
      | some es =>
        obtain ⟨j, es0, hend, hj, htk⟩ := hq
        obtain ⟨v, g1, g2⟩ := run hend
        obtain ⟨q1, q2⟩ := g2 e sz es0 0 hj
        obtain ⟨hB, hsz0, hcap, hmx, hes, hIf, arr, hg, hsz, hcs⟩ := hs.hp j _ hj
        refine ⟨hs.defers, v, g1, hs.below, I', hs.i0, hs.i1, hs.ib, L.m j, L.cp j, arr, ?_, hB, ?_, hsz0, by omega, hmx, ?_, hg, hsz, ?_⟩
        · rw [q2]; simp
        · intro o ho
          have := hIf o ho
          omega
        · intro x hx
          rw [← htk] at hx
          exact hes x (List.mem_of_mem_take hx)
        · intro i k x t hx ht
          rw [← htk, List.getElem?_take] at hx
          split at hx
          · exact hcs i k x t hx ht
          · cases hx
    rcases he with rfl | rfl
    · exact fin
    · exact fin
  · cases hok

theorem SimD.adopt {j b0 cap : Nat} {blk : Blk} (h : SimD cx L I st a w) (hf : st.free j = true) (hfresh : ∀ j' b', st.hp.lookup j' = some b' → L.m j' ≠ b0)
    (hb : BR w (L.set j b0 cap) ((j, blk) :: st.hp) I cx.w0.heap.size j blk) : SimD cx (L.set j b0 cap) I (st.addB j blk) a w := by
  have k : Keep (some j) w w L (L.set j b0 cap) st.hp ((j, blk) :: st.hp) I I := by
    refine ⟨fun _ _ h => h, fun _ _ _ => rfl, fun j' hne hs => ?_, fun j' e sz es fz hne hl => ?_⟩
    · have : j' ≠ j := fun e => by subst e; simp at hne
      rw [lookup_cons, if_neg this] at hs
      exact ⟨hs, by simp [Loc.set, this]⟩
    · have : j' ≠ j := fun e => by subst e; simp at hne
      rw [lookup_cons, if_neg this] at hl
      exact ⟨es, fz, hl, Nat.le_refl _, by simp [Loc.set, this]⟩
  refine h.step k (fun j' e => by cases e; exact hf) (Below.refl _ _) h.i1 h.ib ?_ ?_
  · intro j1 j2 b1 b2 h1 h2 he
    rw [lookup_cons] at h1 h2
    split at h1 <;> split at h2
    · rename_i e1 e2; rw [e1, e2]
    · rename_i e1 e2
      have := hfresh j2 b2 h2
      simp [Loc.set, e1, e2] at he
      exact absurd he.symm this
    · rename_i e1 e2
      have := hfresh j1 b1 h1
      simp [Loc.set, e1, e2] at he
      exact absurd he this
    · rename_i e1 e2
      simp [Loc.set, e1, e2] at he
      exact h.inj j1 j2 b1 b2 h1 h2 he
  · intro j' b' hl
    rw [lookup_cons] at hl
    split at hl
    · rename_i e; subst e; cases hl; exact hb
    · rename_i e
      exact BR.keep k (h.hp j' b' hl) (St.free_hp hf hl e) rfl (by simp [Loc.set, e]) (by simp [Loc.set, e]) (fun o ho => ho)

def afterN (st : St) (d e sz : Nat) : Option (List (List T)) → St
  | none => st.put d (.c .nil)
  | some es => (st.addB d (.row e sz es 0)).put d (.c (.row d 0 es.length))

theorem ok_callN {x : Operand} {args : List Operand} {tys : Array TypeId} {f : FuncId} {d e sz : Nat} {hss : List (List Nat)} {ys : List TV} {r : Option (List (List T))} (ho : o.op = .call { callee := .value x, args := args.toArray, argTypes := tys }) (hd' : o.dst = some d)
    (hx : st.ev x = .c (.t (.fn f))) (hc : callable P f = true) (hargs : argsH st hss args = some ys) (hf : st.free d = true) (hh : HoldsN P f ys e sz r) :
    OpOK P cx o st (afterN st d e sz r) := by
  intro hd a w hsim K Q hK
  obtain ⟨L, I, h⟩ := hsim
  have hfn : a.eval x = .func (.func f) #[] #[] := by
    have := h.ev x
    rw [hx] at this
    exact Rep.fn_inv this
  have hrun := run_call_value (P := P) (w := w) ho hfn hc
  have hcalls := hh I w (args.map a.eval) h.ib (VRs.reT (argsH_R h hargs))
  unfold Oper.wp
  rw [hrun, Oper.upon_enter]
  refine Calls.mono hcalls fun en w' he => ?_
  obtain ⟨hb, I', h1, h2, h3, hres⟩ := he
  have h' := h.after hb h1 h2 h3
  cases r with
  | none =>
    obtain ⟨ad, rfl⟩ := hres
    have := sim_put (o := o) (v := .c .nil) h' ⟨ad, rfl⟩ hd
    rw [hd'] at this
    refine hK _ _ ?_
    rw [hd']
    exact this
  | some es =>
    obtain ⟨b, cap, c, rfl, hlow, hnI, hsz0, hle, hmx, hes, hg, hsz, hcs⟩ := hres
    have h4 : SimD cx (L.set d b cap) I' (st.addB d (.row e sz es 0)) a w' := by
      refine h'.adopt hf (fun j' b' hl => by have := (h.hp j' b' hl).lt.2; omega) ?_
      refine ⟨by simpa [Loc.set] using Nat.le_trans h.below.size hlow, hsz0, by simpa [Loc.set] using hle, by simpa [Loc.set] using hmx, hes, ?_, c, by simpa [Loc.set] using hg, by simpa [Loc.set] using hsz, hcs⟩
      intro o ho
      simp only [Loc.set, if_true] at ho
      exact absurd ho (hnI o)
    have := sim_put (o := o) (v := .c (.row d 0 es.length)) (val := .slice (some ⟨b, 0, none⟩) es.length cap) h4 (by
      intro e' sz' es' fz' hl
      have hl' : (st.addB d (.row e sz es 0)).hp.lookup d = some (.row e' sz' es' fz') := hl
      rw [St.addB_lookup, if_pos rfl] at hl'
      cases hl'
      exact ⟨by omega, by simp [Loc.set]⟩) hd
    rw [hd'] at this
    refine hK _ _ ?_
    rw [hd']
    exact this
end
end Go.Am
namespace Go.Am
open Go.RowKit (Below)

/-- As infO, with the operation's guard. -/
def infG (P : Program) (ops : Array Oper) (st : St) (o : Oper) : H → Option (Inf × List Prop)
  | .ga b h => match o.guard with
    | some (g, b0) => match (ops[g]?).bind (·.dst) with
      | some t => match st.tm.lookup t with
        | some (.c (.t (.bool b'))) => if b = b0 then (infO P st o h).map fun r => (r.1, (b' = b) :: r.2) else some (⟨[], [], ⟨o.dst.map fun d => (d, .tup []), none⟩⟩, [b' = b])
        | _ => none
      | none => none
    | none => none
  | h => match o.guard with
    | none => infO P st o h
    | some (g, b0) => match (ops[g]?).bind (·.dst) with
      | some t => match st.tm.lookup t with
        | some (.c (.t (.bool b'))) => if b' = b0 then infO P st o h else some (⟨[], [], ⟨o.dst.map fun d => (d, .tup []), none⟩⟩, [])
        | some (.tup []) => some (⟨[], [], ⟨o.dst.map fun d => (d, .tup []), none⟩⟩, [])
        | _ => none
      | none => none

/-- Instructions: the next operation with a hint; or the same memory told otherwise. -/
inductive I where
  | op (h : H)
  | appR (es2 es : List (List T))
  | appT (es : List (List T))
  | snap (t fz : Nat) (es : List (List T))
  | snapC (jb k fz : Nat) (es : List (List T))
  | nilT (t sz : Nat)
  | sb (t : Nat) (b : Bool)
  | si (t : Nat) (n : Int)
  | rl (t off len : Nat)
  | tellA (t : Nat) (hs : List Nat)
  | tellB (j : Nat) (hs : List Nat)
  | callR (js : List Nat) (F' : List (Nat × Blk)) (res : V)
  | callN (hss : List (List Nat)) (e sz : Nat) (r : Option (List (List T)))
  | keepT (ts : List Nat)
  | rlB (jb k off len : Nat)
  | keep (ts js : List Nat)

def pickB (hp : List (Nat × Blk)) (js : List Nat) : List (Nat × Blk) := js.filterMap fun j => (hp.lookup j).map fun b => (j, b)

theorem pickB_frame (hp : List (Nat × Blk)) : ∀ js : List Nat, frameIn hp (pickB hp js)
  | [], _ => rfl
  | j :: js, k => by
    have ih := pickB_frame hp js k
    unfold pickB at ih ⊢
    cases hl : hp.lookup j with
    | none => simpa [hl] using ih
    | some b =>
      simp only [List.filterMap_cons, hl, Option.map_some, List.cons_append]
      rw [lookup_cons]
      split
      · rename_i e; subst e; exact hl.symm
      · exact ih

def andC (r : Option (St × List Prop)) (ps : List Prop) : Option (St × List Prop) := r.map fun q => (q.1, ps ++ q.2)

def seqX (P : Program) (ops : Array Oper) : List I → List Oper → St → Option (St × List Prop)
  | [], [], st => some (st, [])
  | [], _ :: _, _ => none
  | .op h :: is, o :: l, st => match infG P ops st o h with
    | some (i, φ) => if i.fresh.all (fun j => st.free j) then andC (seqX P ops is l (i.u.app st)) φ else none
    | none => none
  | .op _ :: _, [], _ => none
  | .appR es2 es' :: is, o :: l, st => match o.guard, o.op, o.dst with
    | none, .call { callee := .builtin .append, args, argTypes }, some d => match args.toList, argTypes.toList with
      | [s, x], [t, t'] => match st.ev s, elemInfo P t with
        | .c (.row j 0 len), some (e, sz, by', _) => match st.hp.lookup j, newsOf st.hp sz (st.ev x) with
          | some (.row e' sz' es 0), some new => if t = t' ∧ 0 < sz ∧ e = e' ∧ sz = sz' then
              andC (seqX P ops is l (((st.scrub j).addB j (.row e sz es' 0)).put d (.c (.row j 0 es'.length)))) [len = es.length, new = es2, es ++ es2 = es', es'.length * by' ≤ 140737488355328, es'.length ≤ maxLen] else none
          | _, _ => none
        | _, _ => none
      | _, _ => none
    | _, _, _ => none
  | .appR _ _ :: _, [], _ => none
  | .appT es' :: is, o :: l, st => match o.guard, o.op, o.dst with
    | none, .call { callee := .builtin .append, args, argTypes }, some d => match args.toList, argTypes.toList with
      | [s, x], [t, t'] => match st.ev s, elemInfo P t with
        | .c .nil, some (_, sz, by', _) => match newsOf st.hp sz (st.ev x), st.hp.lookup d with
          | some new, none => if t = t' ∧ 0 < sz ∧ st.free d then
              andC (seqX P ops is l (st.put d (.c (.t (.sl sz es'))))) [new = es', es'.length * by' ≤ 140737488355328, es'.length ≤ maxLen] else none
          | _, _ => none
        | _, _ => none
      | _, _ => none
    | _, _, _ => none
  | .appT _ :: _, [], _ => none
  | .snap t fz' es' :: is, l, st => match st.tm.lookup t with
    | some (.c (.row j off len)) => match st.hp.lookup j with
      | some (.row e sz es fz) => andC (seqX P ops is l ((st.addB j (.row e sz es fz')).put t (.c (.t (.sl sz es'))))) [(es.drop off).take len = es', max fz (off + len) = fz']
      | _ => none
    | some (.c (.clip j off len)) => match st.hp.lookup j with
      | some (.row e sz es fz) => andC (seqX P ops is l ((st.addB j (.row e sz es fz')).put t (.c (.t (.sl sz es'))))) [(es.drop off).take len = es', max fz (off + len) = fz']
      | _ => none
    | _ => none
  | .snapC jb k fz' es' :: is, l, st => match st.hp.lookup jb with
    | some (.var cs) => match cs[k]? with
      | some (.row j off len) => match st.hp.lookup j with
        | some (.row e sz es fz) => andC (seqX P ops is l ((st.addB j (.row e sz es fz')).addB jb (.var (cs.set k (.t (.sl sz es')))))) [(es.drop off).take len = es', max fz (off + len) = fz']
        | _ => none
      | _ => none
    | _ => none
  | .nilT t sz :: is, l, st => match st.tm.lookup t with
    | some (.c .nil) => seqX P ops is l (st.put t (.c (.t (.sl sz []))))
    | _ => none
  | .sb t b :: is, l, st => match st.tm.lookup t with
    | some (.c (.t (.bool b'))) => andC (seqX P ops is l (st.put t (boolV b))) [b' = b]
    | _ => none
  | .si t n :: is, l, st => match st.tm.lookup t with
    | some (.c (.t (.int k n'))) => andC (seqX P ops is l (st.put t (intV k n))) [n' = n]
    | _ => none
  | .rl t off' len' :: is, l, st => match st.tm.lookup t with
    | some (.c (.row j off len)) => andC (seqX P ops is l (st.put t (.c (.row j off' len')))) [off = off', len = len']
    | _ => none
  | .tellA t hs :: is, l, st => match st.tm.lookup t with
    | some (.agg cs) => match treesH (fun k => hs.getD k 0) 0 cs with
      | some ts => seqX P ops is l (st.put t (.agg (ts.map .t)))
      | none => none
    | _ => none
  | .tellB j hs :: is, l, st => match st.hp.lookup j with
    | some (.var cs) => match treesH (fun k => hs.getD k 0) 0 cs with
      | some ts => seqX P ops is l (st.addB j (.var (ts.map .t)))
      | none => none
    | _ => none
  | .callR js F' res :: is, o :: l, st => match o.guard, o.op with
    | none, .call { callee := .value x, args, argTypes := _ } => match fnOf (st.ev x) with
      | some (f, caps) => if callable P f then andC (seqX P ops is l (({ st with hp := F' ++ st.hp } : St).put? o.dst res)) [HoldsR P f (args.toList.map st.ev ++ caps.map capV) (pickB st.hp js) F' res] else none
      | none => none
    | _, _ => none
  | .callR _ _ _ :: _, [], _ => none
  | .callN hss e sz r :: is, o :: l, st => match o.guard, o.op, o.dst with
    | none, .call { callee := .value x, args, argTypes := _ }, some d => match st.ev x, argsH st hss args.toList with
      | .c (.t (.fn f)), some ys => if callable P f ∧ st.free d then
          andC (seqX P ops is l (afterN st d e sz r)) [HoldsN P f ys e sz r] else none
      | _, _ => none
    | _, _, _ => none
  | .callN _ _ _ _ :: _, [], _ => none
  | .keepT ts :: is, l, st => seqX P ops is l { st with tm := ts.filterMap fun t => (st.tm.lookup t).map fun v => (t, v) }
  | .rlB jb k off' len' :: is, l, st => match st.hp.lookup jb with
    | some (.var cs) => match cs[k]? with
      | some (.row j off len) => andC (seqX P ops is l (st.addB jb (.var (cs.set k (.row j off' len'))))) [off = off', len = len']
      | _ => none
    | _ => none
  | .keep ts js :: is, l, st => seqX P ops is l (st.keep ts js)

/-- The first operations of a region that draws its order. -/
def rowsX (P : Program) (ops : Array Oper) : List H → List Oper → St → Option (List Inf × List Oper × St × List Prop)
  | [], l, st => some ([], l, st, [])
  | h :: hs, o :: l, st => match infG P ops st o h with
    | some (i, φ) => match rowsX P ops hs l (i.u.app st) with
      | some (is, l', st', ψ) => some (i :: is, l', st', φ ++ ψ)
      | none => none
    | none => none
  | _ :: _, [], _ => none

section
variable {P : Program} {cx : Cx} {o : Oper} {st st' : St} {ops : Array Oper} {l : List Oper} {R : St → Prop}

theorem infG_ok {h : H} {i : Inf} {φs : List Prop} (hx : infG P ops st o h = some (i, φs)) (hφ : AllP φs) : EffG P cx ops o st i.rk i.fresh i.u := by
  have plain : (match o.guard with
    | none => infO P st o h
    | some (g, b0) => match (ops[g]?).bind (·.dst) with
      | some t => match st.tm.lookup t with
        | some (.c (.t (.bool b'))) => if b' = b0 then infO P st o h else some (⟨[], [], ⟨o.dst.map fun d => (d, .tup []), none⟩⟩, [])
        | some (.tup []) => some (⟨[], [], ⟨o.dst.map fun d => (d, .tup []), none⟩⟩, [])
        | _ => none
      | none => none) = some (i, φs) → EffG P cx ops o st i.rk i.fresh i.u := by
    intro hx
    unfold EffG
    cases hg : o.guard with
    | none => rw [hg] at hx; exact infO_ok hx hφ
    | some p =>
      obtain ⟨g, b0⟩ := p
      rw [hg] at hx
      simp only at hx ⊢
      split at hx
      · rename_i t ht
        split at hx
        · rename_i b' hl
          split at hx
          · rename_i e
            exact ⟨t, _, some b', ht, hl, rfl, by rw [if_pos (by rw [e])]; exact infO_ok hx hφ⟩
          · rename_i e
            cases hx
            exact ⟨t, _, some b', ht, hl, rfl, by rw [if_neg (by simpa using e)]⟩
        · rename_i hl
          cases hx
          exact ⟨t, _, none, ht, hl, rfl, by rw [if_neg (by simp)]⟩
        · cases hx
      · cases hx
  cases h with
  | ga b h =>
    simp only [infG] at hx
    unfold EffG
    split at hx
    · rename_i g b0 hg
      rw [hg]
      simp only
      split at hx
      · rename_i t ht
        split at hx
        · rename_i b' hl
          split at hx
          · rename_i e
            obtain ⟨r, h1, h2⟩ := Option.map_eq_some_iff.1 hx
            cases h2
            obtain ⟨h3, h4⟩ := hφ
            exact ⟨t, _, some b', ht, hl, rfl, by rw [if_pos (by rw [h3.trans e])]; exact infO_ok h1 h4⟩
          · rename_i e
            cases hx
            exact ⟨t, _, some b', ht, hl, rfl, by rw [if_neg (by rw [hφ.1]; simpa using e)]⟩
        · cases hx
      · cases hx
    · cases hx
  | _ => exact plain hx

theorem agreeEv_self (st : St) : ∀ xs : List Operand, AgreeEv st st xs
  | [] => trivial
  | _ :: xs => ⟨rfl, agreeEv_self st xs⟩
theorem agreeB_self (st : St) : ∀ xs : List Nat, AgreeB st st xs
  | [] => trivial
  | _ :: xs => ⟨rfl, agreeB_self st xs⟩

theorem run_eff {rk fresh : List Nat} {u : Upd} (h : EffG P cx ops o st rk fresh u) (hf : ∀ j ∈ fresh, st.free j = true) (hr : RunOps P cx ops l (u.app st) R) : RunOps P cx ops (o :: l) st R := by
  unfold EffG at h
  split at h
  · rename_i hg
    exact run_op hg (h st (agreeEv_self st _) (agreeB_self st _) hf) hr
  · rename_i g b hg
    obtain ⟨t, v, yb, ht, hl, hyv, hif⟩ := h
    split at hif
    · rename_i e; subst e
      have hgb : guardB ops st g = some b := by
        unfold guardB
        rw [ht]
        simp only
        rw [hl]
        unfold yV at hyv
        split at hyv
        · cases hyv; rfl
        · cases hyv
        · cases hyv
      exact run_yes hg hgb (hif st (agreeEv_self st _) (agreeB_self st _) hf) hr
    · rename_i e
      subst hif
      rw [app_dst] at hr
      exact run_skip hg ht hl hyv e hr

theorem andC_some {r : Option (St × List Prop)} {ps φ : List Prop} {s : St} (h : andC r ps = some (s, φ)) : ∃ ψ, r = some (s, ψ) ∧ φ = ps ++ ψ := by
  obtain ⟨q, h1, h2⟩ := Option.map_eq_some_iff.1 h
  cases h2
  exact ⟨_, h1, rfl⟩

theorem Sim.retellEq {t : Nat} {v v' : V} {a : Act} {w : World} (h : Sim cx st a w) (hl : st.tm.lookup t = some v) (e : v = v') : Sim cx (st.put t v') a w := by
  subst e
  obtain ⟨L, I, h⟩ := h
  obtain ⟨h1, h2⟩ := h.tm t v hl
  exact ⟨L, I, h.retell h2 h1⟩

/-- A variable without references, told so. -/
theorem Sim.tellB {j : Nat} {hs : List Nat} {cs : List C} {ts : List T} {a : Act} {w : World} (hsim : Sim cx st a w) (hb : st.hp.lookup j = some (.var cs)) (ht : treesH (fun k => hs.getD k 0) 0 cs = some ts) :
    Sim cx (st.addB j (.var (ts.map .t))) a w := by
  obtain ⟨L, I, h⟩ := hsim
  obtain ⟨q1, q2, arr, ty, hg, hcs⟩ := h.hp j _ hb
  have hself : w.setRow (L.m j) arr = w := by rw [setRow_self w _ arr ty (0, 0) hg]
  have := h.write (b' := .var (ts.map .t)) (arr' := arr) hb hg (fun e' sz' es' fz' he => by cases he) (fun _ _ => rfl) (fun kk =>
    ⟨q1, q2, arr, ty, setRow_heap w _ arr _ ty _ hg, treesH_R (kk.cs (csFree_none _) hcs) ht⟩)
  rw [hself] at this
  exact ⟨L, _, this⟩

theorem Sim.tellA {t : Nat} {hs : List Nat} {cs : List C} {ts : List T} {a : Act} {w : World} (hsim : Sim cx st a w) (hl : st.tm.lookup t = some (.agg cs)) (ht : treesH (fun k => hs.getD k 0) 0 cs = some ts) :
    Sim cx (st.put t (.agg (ts.map .t))) a w := by
  obtain ⟨L, I, h⟩ := hsim
  obtain ⟨h1, h2⟩ := h.tm t _ hl
  obtain ⟨vs, e, hv⟩ := h1
  exact ⟨L, I, h.retell h2 ⟨vs, e, treesH_R hv ht⟩⟩

theorem Sim.sameB {jb k : Nat} {cs : List C} {c : C} {a : Act} {w : World} (hs : Sim cx st a w) (hb : st.hp.lookup jb = some (.var cs)) (hk : cs[k]? = some c) : Sim cx (st.addB jb (.var (cs.set k c))) a w := by
  obtain ⟨L, I, h⟩ := hs
  refine ⟨L, I, h.same (fun _ => rfl) (fun j => ?_) rfl⟩
  rw [St.addB_lookup]
  split
  · rename_i e; subst e
    rw [hb]
    congr 2
    apply List.ext_getElem?
    intro i
    rw [List.getElem?_set]
    split
    · rename_i e; subst e
      split
      · exact hk.symm
      · rename_i hlt; rw [List.getElem?_eq_none (by omega)]
    · rfl
  · rfl

theorem seqX_ok : ∀ {is : List I} {l : List Oper} {st st' : St} {φs : List Prop}, seqX P ops is l st = some (st', φs) → AllP φs → R st' → RunOps P cx ops l st R
  | [], [], st, st', φs, h, _, hr => by simp only [seqX] at h; cases h; exact run_nil hr
  | [], _ :: _, _, _, _, h, _, _ => by simp [seqX] at h
  | .op hh :: is, o :: l, st, st', φs, h, hφ, hr => by
    simp only [seqX] at h
    split at h
    · rename_i i φ hi
      split at h
      · rename_i hf
        obtain ⟨ψ, h1, rfl⟩ := andC_some h
        obtain ⟨g1, g2⟩ := hφ.append
        exact run_eff (infG_ok hi g1) (fun j hj => List.all_eq_true.1 hf j hj) (seqX_ok h1 g2 hr)
      · cases h
    · cases h
  | .op _ :: _, [], _, _, _, h, _, _ => by simp [seqX] at h
  | .appR es2 es' :: is, o :: l, st, st', φs, h, hφ, hr => by
    simp only [seqX] at h
    split at h
    · rename_i args tys d hg hop hd
      split at h
      · rename_i s x t t' ha ht
        have ha' : args = #[s, x] := by rw [← Array.toArray_toList (xs := args), ha]
        have ht' : tys = #[t, t'] := by rw [← Array.toArray_toList (xs := tys), ht]
        subst ha'; subst ht'
        split at h
        · rename_i j len e sz by' z hs hi
          split at h
          · rename_i e' sz' es new hj hn
            split at h
            · rename_i hc
              obtain ⟨rfl, hsz, rfl, rfl⟩ := hc
              obtain ⟨ψ, h1, rfl⟩ := andC_some h
              obtain ⟨g1, g2⟩ := hφ.append
              obtain ⟨k1, k2, k3, k4, k5, _⟩ := g1
              subst k1; subst k2; subst k3
              have hlen : (es ++ new).length = es.length + new.length := List.length_append
              refine run_op hg (ok_app_row hop hd hi hsz hs hj (newsOf_spec hn) (by rw [← hlen]; exact k4) (by rw [← hlen]; exact k5)) ?_
              rw [← hlen]
              exact seqX_ok h1 g2 hr
            · cases h
          · cases h
        · cases h
      · cases h
    · cases h
  | .appR _ _ :: _, [], _, _, _, h, _, _ => by simp [seqX] at h
  | .appT es' :: is, o :: l, st, st', φs, h, hφ, hr => by
    simp only [seqX] at h
    split at h
    · rename_i args tys d hg hop hd
      split at h
      · rename_i s x t t' ha ht
        have ha' : args = #[s, x] := by rw [← Array.toArray_toList (xs := args), ha]
        have ht' : tys = #[t, t'] := by rw [← Array.toArray_toList (xs := tys), ht]
        subst ha'; subst ht'
        split at h
        · rename_i e sz by' z hs hi
          split at h
          · rename_i new hn hjn
            split at h
            · rename_i hc
              obtain ⟨rfl, hsz, hf⟩ := hc
              obtain ⟨ψ, h1, rfl⟩ := andC_some h
              obtain ⟨g1, g2⟩ := hφ.append
              obtain ⟨k1, k2, k3, _⟩ := g1
              subst k1
              exact run_op hg (ok_app_nilT hop hd hi hsz hs (newsOf_spec hn) k2 k3 hf hjn) (seqX_ok h1 g2 hr)
            · cases h
          · cases h
        · cases h
      · cases h
    · cases h
  | .appT _ :: _, [], _, _, _, h, _, _ => by simp [seqX] at h
  | .snap t fz' es' :: is, l, st, st', φs, h, hφ, hr => by
    simp only [seqX] at h
    split at h
    · rename_i j off len ht
      split at h
      · rename_i e sz es fz hj
        obtain ⟨ψ, h1, rfl⟩ := andC_some h
        obtain ⟨g1, g2⟩ := hφ.append
        obtain ⟨k1, k2, _⟩ := g1
        subst k1; subst k2
        exact run_pre (fun a w hs => hs.snap ht hj) (seqX_ok h1 g2 hr)
      · cases h
    · rename_i j off len ht
      split at h
      · rename_i e sz es fz hj
        obtain ⟨ψ, h1, rfl⟩ := andC_some h
        obtain ⟨g1, g2⟩ := hφ.append
        obtain ⟨k1, k2, _⟩ := g1
        subst k1; subst k2
        exact run_pre (fun a w hs => hs.snapClip ht hj) (seqX_ok h1 g2 hr)
      · cases h
    · cases h
  | .snapC jb k fz' es' :: is, l, st, st', φs, h, hφ, hr => by
    simp only [seqX] at h
    split at h
    · rename_i cs hb
      split at h
      · rename_i j off len hk
        split at h
        · rename_i e sz es fz hj
          obtain ⟨ψ, h1, rfl⟩ := andC_some h
          obtain ⟨g1, g2⟩ := hφ.append
          obtain ⟨k1, k2, _⟩ := g1
          subst k1; subst k2
          exact run_pre (fun a w hs => hs.snapCell hb hk hj) (seqX_ok h1 g2 hr)
        · cases h
      · cases h
    · cases h
  | .nilT t sz :: is, l, st, st', φs, h, hφ, hr => by
    simp only [seqX] at h
    split at h
    · rename_i ht
      exact run_pre (fun a w hs => hs.nilT ht) (seqX_ok h hφ hr)
    · cases h
  | .sb t b :: is, l, st, st', φs, h, hφ, hr => by
    simp only [seqX] at h
    split at h
    · rename_i b' ht
      obtain ⟨ψ, h1, rfl⟩ := andC_some h
      obtain ⟨g1, g2⟩ := hφ.append
      exact run_pre (fun a w hs => hs.retellEq ht (by rw [g1.1]; rfl)) (seqX_ok h1 g2 hr)
    · cases h
  | .si t n :: is, l, st, st', φs, h, hφ, hr => by
    simp only [seqX] at h
    split at h
    · rename_i k n' ht
      obtain ⟨ψ, h1, rfl⟩ := andC_some h
      obtain ⟨g1, g2⟩ := hφ.append
      exact run_pre (fun a w hs => hs.retellEq ht (by rw [g1.1]; rfl)) (seqX_ok h1 g2 hr)
    · cases h
  | .rl t off' len' :: is, l, st, st', φs, h, hφ, hr => by
    simp only [seqX] at h
    split at h
    · rename_i j off len ht
      obtain ⟨ψ, h1, rfl⟩ := andC_some h
      obtain ⟨g1, g2⟩ := hφ.append
      exact run_pre (fun a w hs => hs.retellEq ht (by rw [g1.1, g1.2.1])) (seqX_ok h1 g2 hr)
    · cases h
  | .tellA t ks :: is, l, st, st', φs, h, hφ, hr => by
    simp only [seqX] at h
    split at h
    · rename_i cs ht
      split at h
      · rename_i ts hts
        exact run_pre (fun a w hs => hs.tellA ht hts) (seqX_ok h hφ hr)
      · cases h
    · cases h
  | .tellB j ks :: is, l, st, st', φs, h, hφ, hr => by
    simp only [seqX] at h
    split at h
    · rename_i cs ht
      split at h
      · rename_i ts hts
        exact run_pre (fun a w hs => hs.tellB ht hts) (seqX_ok h hφ hr)
      · cases h
    · cases h
  | .callR js F' res :: is, o :: l, st, st', φs, h, hφ, hr => by
    simp only [seqX] at h
    split at h
    · rename_i x args tys hg hop
      split at h
      · rename_i f caps hx
        split at h
        · rename_i hc
          obtain ⟨ψ, h1, rfl⟩ := andC_some h
          obtain ⟨g1, g2⟩ := hφ.append
          have hop' : o.op = .call { callee := .value x, args := args.toList.toArray, argTypes := tys } := by simpa using hop
          exact run_op hg (ok_callR hop' hx hc (pickB_frame st.hp js) g1.1) (seqX_ok h1 g2 hr)
        · cases h
      · cases h
    · cases h
  | .callR _ _ _ :: _, [], _, _, _, h, _, _ => by simp [seqX] at h
  | .callN hss e sz r :: is, o :: l, st, st', φs, h, hφ, hr => by
    simp only [seqX] at h
    split at h
    · rename_i x args tys d hg hop hd
      split at h
      · rename_i f ys hx ha
        split at h
        · rename_i hc
          obtain ⟨ψ, h1, rfl⟩ := andC_some h
          obtain ⟨g1, g2⟩ := hφ.append
          have hop' : o.op = .call { callee := .value x, args := args.toList.toArray, argTypes := tys } := by simpa using hop
          exact run_op hg (ok_callN hop' hd hx hc.1 ha hc.2 g1.1) (seqX_ok h1 g2 hr)
        · cases h
      · cases h
    · cases h
  | .callN _ _ _ _ :: _, [], _, _, _, h, _, _ => by simp [seqX] at h
  | .keepT ts :: is, l, st, st', φs, h, hφ, hr => by
    simp only [seqX] at h
    exact run_pre (fun a w hs => by obtain ⟨L, I, hs⟩ := hs; exact ⟨L, I, hs.sub (fun t v ht => lookup_filterMap ht) (fun _ _ hb => hb) rfl⟩) (seqX_ok h hφ hr)
  | .rlB jb k off' len' :: is, l, st, st', φs, h, hφ, hr => by
    simp only [seqX] at h
    split at h
    · rename_i cs hb
      split at h
      · rename_i j off len hk
        obtain ⟨ψ, h1, rfl⟩ := andC_some h
        obtain ⟨g1, g2⟩ := hφ.append
        obtain ⟨k1, k2, _⟩ := g1
        subst k1; subst k2
        exact run_pre (fun a w hs => hs.sameB hb hk) (seqX_ok h1 g2 hr)
      · cases h
    · cases h
  | .keep ts js :: is, l, st, st', φs, h, hφ, hr => by
    simp only [seqX] at h
    exact run_pre (fun a w hs => hs.keep ts js) (seqX_ok h hφ hr)

/-- The same, of instructions before a piece of code. -/
theorem preS : ∀ {is : List I} {st st' : St} {φs : List Prop}, seqX P #[] is [] st = some (st', φs) → AllP φs → ∀ a w, Sim cx st a w → Sim cx st' a w
  | [], st, st', φs, h, _ => by simp only [seqX] at h; cases h; exact fun _ _ hs => hs
  | .op _ :: _, _, _, _, h, _ => by simp [seqX] at h
  | .appR _ _ :: _, _, _, _, h, _ => by simp [seqX] at h
  | .appT _ :: _, _, _, _, h, _ => by simp [seqX] at h
  | .snap t fz' es' :: is, st, st', φs, h, hφ => by
    simp only [seqX] at h
    split at h
    · rename_i j off len ht
      split at h
      · rename_i e sz es fz hj
        obtain ⟨ψ, h1, rfl⟩ := andC_some h
        obtain ⟨g1, g2⟩ := hφ.append
        obtain ⟨k1, k2, _⟩ := g1
        subst k1; subst k2
        exact fun a w hs => preS h1 g2 a w (hs.snap ht hj)
      · cases h
    · rename_i j off len ht
      split at h
      · rename_i e sz es fz hj
        obtain ⟨ψ, h1, rfl⟩ := andC_some h
        obtain ⟨g1, g2⟩ := hφ.append
        obtain ⟨k1, k2, _⟩ := g1
        subst k1; subst k2
        exact fun a w hs => preS h1 g2 a w (hs.snapClip ht hj)
      · cases h
    · cases h
  | .snapC jb k fz' es' :: is, st, st', φs, h, hφ => by
    simp only [seqX] at h
    split at h
    · rename_i cs hb
      split at h
      · rename_i j off len hk
        split at h
        · rename_i e sz es fz hj
          obtain ⟨ψ, h1, rfl⟩ := andC_some h
          obtain ⟨g1, g2⟩ := hφ.append
          obtain ⟨k1, k2, _⟩ := g1
          subst k1; subst k2
          exact fun a w hs => preS h1 g2 a w (hs.snapCell hb hk hj)
        · cases h
      · cases h
    · cases h
  | .nilT t sz :: is, st, st', φs, h, hφ => by
    simp only [seqX] at h
    split at h
    · rename_i ht
      exact fun a w hs => preS h hφ a w (hs.nilT ht)
    · cases h
  | .sb t b :: is, st, st', φs, h, hφ => by
    simp only [seqX] at h
    split at h
    · rename_i b' ht
      obtain ⟨ψ, h1, rfl⟩ := andC_some h
      obtain ⟨g1, g2⟩ := hφ.append
      exact fun a w hs => preS h1 g2 a w (hs.retellEq ht (by rw [g1.1]; rfl))
    · cases h
  | .si t n :: is, st, st', φs, h, hφ => by
    simp only [seqX] at h
    split at h
    · rename_i k n' ht
      obtain ⟨ψ, h1, rfl⟩ := andC_some h
      obtain ⟨g1, g2⟩ := hφ.append
      exact fun a w hs => preS h1 g2 a w (hs.retellEq ht (by rw [g1.1]; rfl))
    · cases h
  | .rl t off' len' :: is, st, st', φs, h, hφ => by
    simp only [seqX] at h
    split at h
    · rename_i j off len ht
      obtain ⟨ψ, h1, rfl⟩ := andC_some h
      obtain ⟨g1, g2⟩ := hφ.append
      exact fun a w hs => preS h1 g2 a w (hs.retellEq ht (by rw [g1.1, g1.2.1]))
    · cases h
  | .tellA t ks :: is, st, st', φs, h, hφ => by
    simp only [seqX] at h
    split at h
    · rename_i cs ht
      split at h
      · rename_i ts hts
        exact fun a w hs => preS h hφ a w (hs.tellA ht hts)
      · cases h
    · cases h
  | .tellB j ks :: is, st, st', φs, h, hφ => by
    simp only [seqX] at h
    split at h
    · rename_i cs ht
      split at h
      · rename_i ts hts
        exact fun a w hs => preS h hφ a w (hs.tellB ht hts)
      · cases h
    · cases h
  | .callR _ _ _ :: _, _, _, _, h, _ => by simp [seqX] at h
  | .callN _ _ _ _ :: _, _, _, _, h, _ => by simp [seqX] at h
  | .keepT ts :: is, st, st', φs, h, hφ => by
    simp only [seqX] at h
    exact fun a w hs => preS h hφ a w (by obtain ⟨L, I, hs⟩ := hs; exact ⟨L, I, hs.sub (fun t v ht => lookup_filterMap ht) (fun _ _ hb => hb) rfl⟩)
  | .rlB jb k off' len' :: is, st, st', φs, h, hφ => by
    simp only [seqX] at h
    split at h
    · rename_i cs hb
      split at h
      · rename_i j off len hk
        obtain ⟨ψ, h1, rfl⟩ := andC_some h
        obtain ⟨g1, g2⟩ := hφ.append
        obtain ⟨k1, k2, _⟩ := g1
        subst k1; subst k2
        exact fun a w hs => preS h1 g2 a w (hs.sameB hb hk)
      · cases h
    · cases h
  | .keep ts js :: is, st, st', φs, h, hφ => by
    simp only [seqX] at h
    exact fun a w hs => preS h hφ a w (hs.keep ts js)

theorem rowsX_ok : ∀ {hs : List H} {l l' : List Oper} {st st' : St} {is : List Inf} {φs : List Prop}, rowsX P ops hs l st = some (is, l', st', φs) → AllP φs → RunOps P cx ops l' st' R → RowsOK P cx ops R l is st
  | [], l, l', st, st', is, φs, h, _, hr => by simp only [rowsX] at h; cases h; simpa only [RowsOK] using hr
  | hh :: hs, o :: l, l', st, st', is, φs, h, hφ, hr => by
    simp only [rowsX] at h
    split at h
    · rename_i i φ hi
      split at h
      · rename_i is' l'' st'' ψ h1
        cases h
        obtain ⟨g1, g2⟩ := hφ.append
        exact ⟨infG_ok hi g1, rowsX_ok h1 g2 hr⟩
      · cases h
    · cases h
  | _ :: _, [], _, _, _, _, _, h, _, _ => by simp [rowsX] at h
end

/-! ### Code -/
inductive Fr where
  | code (c : Code)
  | blk (id : Nat)
  | lp (c : Code)
  | sc

inductive G where
  | reg (is : List I)
  | draw (hs : List H) (is : List I)
  | br (b : Bool)
  | go
  | pre (is : List I)

def Pos : Type := List Fr × Exit
def andG (r : Option (List Fr × Exit × St × List Prop)) (ps : List Prop) : Option (List Fr × Exit × St × List Prop) := r.map fun q => (q.1, q.2.1, q.2.2.1, ps ++ q.2.2.2)

def goX (P : Program) (n : Nat) : Nat → List Fr → Exit → St → List G → Option (List Fr × Exit × St × List Prop)
  | 0, _, _, _, _ => none
  | fuel + 1, k, e, st, gs =>
    match k with
    | [] => match gs with | [] => some ([], e, st, []) | _ => none
    | .blk id :: k => match e with
      | .exit id' => goX P n fuel k (if id' = id then .normal else .exit id') st gs
      | e => goX P n fuel k e st gs
    | .lp c :: k => match e with
      | .normal => goX P n fuel (.code (.loop c) :: k) .normal st gs
      | e => goX P n fuel k e st gs
    | .sc :: k => match e with
      | .goto _ => none
      | e => goX P n fuel k e st gs
    | .code c :: k => match e with
      | .normal => match c with
        | .scope x => goX P n fuel (.code x :: .sc :: k) .normal st gs
        | .seq x y => goX P n fuel (.code x :: .code y :: k) .normal st gs
        | .block id x => goX P n fuel (.code x :: .blk id :: k) .normal st gs
        | .skip => goX P n fuel k .normal st gs
        | .exit id => goX P n fuel k (.exit id) st gs
        | .ret => goX P n fuel k .ret st gs
        | .label _ => goX P n fuel k .normal st gs
        | c => match gs with
          | [] => some (.code c :: k, .normal, st, [])
          | .pre is :: gs => match seqX P #[] is [] st with
            | some (st', φ) => andG (goX P n fuel (.code c :: k) .normal st' gs) φ
            | none => none
          | g :: gs => match c, g with
            | .region _ ops false, .reg is => if dstsOk n ops.toList then match seqX P ops is ops.toList st with
                | some (st', φ) => andG (goX P n fuel k .normal st' gs) φ
                | none => none
              else none
            | .region _ ops true, .draw hs is => if dstsOk n ops.toList ∧ P.follows .mixedOrders = true then match rowsX P ops hs ops.toList st with
                | some (infs, l', st1, φ) => if commOk ops infs ∧ infs.length ≤ ops.toList.length ∧ infs.all (fun i => i.fresh.all fun k => st.free k) = true then match seqX P ops is l' st1 with
                    | some (st', ψ) => andG (goX P n fuel k .normal st' gs) (φ ++ ψ)
                    | none => none
                  else none
                | none => none
              else none
            | .cond cc x y, .br b => match st.ev cc with
              | .c (.t (.bool b')) => andG (goX P n fuel (.code (if b then x else y) :: k) .normal st gs) [b' = b]
              | _ => none
            | .loop x, .go => goX P n fuel (.code x :: .lp x :: k) .normal st gs
            | _, _ => none
      | e => goX P n fuel k e st gs

section
variable {P : Program} {cx : Cx}

/-- From within a loop, at the head of a round. -/
def LW (P : Program) (cx : Cx) (x : Code) (st : St) (Q : Exit → St → Prop) : Prop :=
  ∀ a w, Sim cx st a w → ∀ (b : Frame) (k : List Item) (cs : List Frame),
    ∃ e a' w', (∃ st', Q e st' ∧ Sim cx st' a' w') ∧ Arrives P (lone (b.at a (.code x :: .inLoop x :: k)) cs w) b k cs e a' w'

theorem LW.aw {x : Code} {st : St} {Q : Exit → St → Prop} (h : LW P cx x st Q) : AW P cx (.loop x) st Q := fun a w hs b k cs =>
  let ⟨e, a', w', hq, harr⟩ := h a w hs b k cs
  ⟨e, a', w', hq, .of_steps (.one step_loop) harr⟩

theorem LW.round {x : Code} {st : St} {Q : Exit → St → Prop} (h : AW P cx x st (thenQ (fun s => LW P cx x s Q) Q)) : LW P cx x st Q := by
  intro a w hs b k cs
  obtain ⟨e, a₁, w₁, ⟨s, hq, hs1⟩, harr⟩ := h a w hs b (.inLoop x :: k) cs
  cases e with
  | normal =>
    obtain ⟨e₂, a₂, w₂, hq₂, harr₂⟩ := hq a₁ w₁ hs1 b k cs
    exact ⟨e₂, a₂, w₂, hq₂, .of_steps (Steps.trans harr (.one step_inLoop)) harr₂⟩
  | exit id => exact ⟨_, a₁, w₁, ⟨s, hq, hs1⟩, .pass (x := .inLoop x) rfl (fun _ _ => .inl (by simp)) harr⟩
  | goto l => exact ⟨_, a₁, w₁, ⟨s, hq, hs1⟩, .pass (x := .inLoop x) rfl (fun _ _ => .inl (by simp)) harr⟩
  | ret => exact ⟨_, a₁, w₁, ⟨s, hq, hs1⟩, .pass (x := .inLoop x) rfl (fun _ _ => .inl (by simp)) harr⟩
  | panic ch => exact ⟨_, a₁, w₁, ⟨s, hq, hs1⟩, .pass (x := .inLoop x) rfl (fun _ _ => .inl (by simp)) harr⟩
  | outgrown => exact ⟨_, a₁, w₁, ⟨s, hq, hs1⟩, .pass (x := .inLoop x) rfl (fun _ _ => .inl (by simp)) harr⟩

def CW (P : Program) (cx : Cx) (c : Code) (st : St) (Q : Exit → St → Prop) : Prop :=
  match c with
  | .loop x => LW P cx x st Q
  | c => AW P cx c st Q

theorem CW.aw {c : Code} {st : St} {Q : Exit → St → Prop} (h : CW P cx c st Q) : AW P cx c st Q := by
  cases c with
  | loop x => exact LW.aw h
  | _ => exact h

/-- What is left to do, from a place with its way out. -/
def AWk (P : Program) (cx : Cx) (F : Exit → St → Prop) : List Fr → Exit → St → Prop
  | [], e, st => F e st
  | .code c :: k, e, st => match e with
    | .normal => CW P cx c st (AWk P cx F k)
    | e => AWk P cx F k e st
  | .blk id :: k, e, st => match e with
    | .exit id' => AWk P cx F k (if id' = id then .normal else .exit id') st
    | e => AWk P cx F k e st
  | .lp c :: k, e, st => match e with
    | .normal => LW P cx c st (AWk P cx F k)
    | e => AWk P cx F k e st
  | .sc :: k, e, st => match e with
    | .goto _ => False
    | e => AWk P cx F k e st

variable {F : Exit → St → Prop} {n : Nat}

theorem andG_some {r : Option (List Fr × Exit × St × List Prop)} {ps φ : List Prop} {k' : List Fr} {e' : Exit} {s : St} (h : andG r ps = some (k', e', s, φ)) : ∃ ψ, r = some (k', e', s, ψ) ∧ φ = ps ++ ψ := by
  obtain ⟨q, h1, h2⟩ := Option.map_eq_some_iff.1 h
  cases h2
  exact ⟨_, h1, rfl⟩

theorem preCW {c : Code} {Q : Exit → St → Prop} {is : List I} {st st' : St} {φs : List Prop} (h : seqX P #[] is [] st = some (st', φs)) (hφ : AllP φs) (hc : CW P cx c st' Q) : CW P cx c st Q := by
  cases c with
  | loop x => exact fun a w hs => hc a w (preS h hφ a w hs)
  | _ => exact fun a w hs => hc a w (preS h hφ a w hs)

theorem awk_enter {c : Code} {k : List Fr} {st : St} (h : AWk P cx F (.code c :: k) .normal st) : AW P cx c st (AWk P cx F k) := CW.aw h

theorem go_ok (hn : cx.n = n) : ∀ {fuel : Nat} {k k' : List Fr} {e e' : Exit} {st st' : St} {gs : List G} {φs : List Prop}, goX P n fuel k e st gs = some (k', e', st', φs) → AllP φs →
    AWk P cx F k' e' st' → AWk P cx F k e st
  | 0, _, _, _, _, _, _, _, _, h, _, _ => by simp [goX] at h
  | fuel + 1, k, k', e, e', st, st', gs, φs, h, hφ, hr => by
    unfold goX at h
    cases k with
    | nil =>
      simp only at h
      split at h
      · cases h; exact hr
      · cases h
    | cons fr k =>
      cases fr with
      | blk id =>
        simp only at h
        cases e with
        | exit id' => exact (go_ok (k := k) hn h hφ hr : AWk P cx F k (if id' = id then .normal else .exit id') st)
        | normal => exact (go_ok (k := k) hn h hφ hr : AWk P cx F k .normal st)
        | goto l => exact (go_ok (k := k) hn h hφ hr : AWk P cx F k (.goto l) st)
        | ret => exact (go_ok (k := k) hn h hφ hr : AWk P cx F k .ret st)
        | panic ch => exact (go_ok (k := k) hn h hφ hr : AWk P cx F k (.panic ch) st)
        | outgrown => exact (go_ok (k := k) hn h hφ hr : AWk P cx F k .outgrown st)
      | lp c =>
        simp only at h
        cases e with
        | normal => exact (go_ok (k := .code (.loop c) :: k) hn h hφ hr : AWk P cx F (.code (.loop c) :: k) .normal st)
        | exit id' => exact (go_ok (k := k) hn h hφ hr : AWk P cx F k (.exit id') st)
        | goto l => exact (go_ok (k := k) hn h hφ hr : AWk P cx F k (.goto l) st)
        | ret => exact (go_ok (k := k) hn h hφ hr : AWk P cx F k .ret st)
        | panic ch => exact (go_ok (k := k) hn h hφ hr : AWk P cx F k (.panic ch) st)
        | outgrown => exact (go_ok (k := k) hn h hφ hr : AWk P cx F k .outgrown st)
      | sc =>
        simp only at h
        cases e with
        | exit id' => exact (go_ok (k := k) hn h hφ hr : AWk P cx F k (.exit id') st)
        | normal => exact (go_ok (k := k) hn h hφ hr : AWk P cx F k .normal st)
        | goto l => cases h
        | ret => exact (go_ok (k := k) hn h hφ hr : AWk P cx F k .ret st)
        | panic ch => exact (go_ok (k := k) hn h hφ hr : AWk P cx F k (.panic ch) st)
        | outgrown => exact (go_ok (k := k) hn h hφ hr : AWk P cx F k .outgrown st)
      | code c =>
        simp only at h
        cases e with
        | normal =>
          have stop : ∀ {k' : List Fr} {e' : Exit} {st' : St} {φs : List Prop}, some (Fr.code c :: k, Exit.normal, st, ([] : List Prop)) = some (k', e', st', φs) → AWk P cx F k' e' st' → AWk P cx F (.code c :: k) .normal st := by
            intro k' e' st' φs h hr; cases h; exact hr
          have pre : ∀ {is : List I} {gs : List G}, (match seqX P #[] is [] st with
              | some (st', φ) => andG (goX P n fuel (.code c :: k) .normal st' gs) φ
              | none => none) = some (k', e', st', φs) → AWk P cx F (.code c :: k) .normal st := by
            intro is gs h
            split at h
            · rename_i st1 φ h1
              obtain ⟨ψ, h2, rfl⟩ := andG_some h
              obtain ⟨g1, g2⟩ := hφ.append
              exact preCW h1 g1 (go_ok (k := .code c :: k) hn h2 g2 hr)
            · cases h
          cases c with
          | seq x y => exact aw_seq (fun a w hs => wp_mono (awk_enter (go_ok (k := .code x :: .code y :: k) hn h hφ hr) a w hs) fun e _ _ ⟨s, h1, h2⟩ => by
              cases e with
              | normal => exact ⟨s, CW.aw h1, h2⟩
              | _ => exact ⟨s, h1, h2⟩)
          | block id x => exact aw_block (fun a w hs => wp_mono (awk_enter (go_ok (k := .code x :: .blk id :: k) hn h hφ hr) a w hs) fun e _ _ ⟨s, h1, h2⟩ => by
              cases e with
              | exit id' =>
                refine ⟨s, ?_, h2⟩
                simp only [blockQ]
                simp only [AWk] at h1
                split
                · rename_i e; rw [if_pos e] at h1; exact h1
                · rename_i e; rw [if_neg e] at h1; exact h1
              | _ => exact ⟨s, h1, h2⟩)
          | scope x => exact fun a w hs => wp_scope_straight (wp_mono (awk_enter (go_ok (k := .code x :: .sc :: k) hn h hφ hr) a w hs) fun e _ _ ⟨s, h1, h2⟩ => by
              cases e with
              | goto l => exact h1.elim
              | _ => exact ⟨s, h1, h2⟩)
          | skip => exact aw_skip (go_ok hn h hφ hr)
          | exit id => exact aw_exit (go_ok (e := .exit id) hn h hφ hr)
          | ret => exact aw_ret (go_ok (e := .ret) hn h hφ hr)
          | label l => exact aw_label (go_ok hn h hφ hr)
          | region id ops draw =>
            simp only at h
            split at h
            · exact stop h hr
            · exact pre h
            · rename_i g gs hnp
              split at h
              · rename_i ops' is heq
                cases heq
                split at h
                · rename_i hd
                  split at h
                  · rename_i st1 φ h1
                    obtain ⟨ψ, h2, rfl⟩ := andG_some h
                    obtain ⟨g1, g2⟩ := hφ.append
                    have := aw_region (id := id) (Q := AWk P cx F k) hn hd (seqX_ok (R := AWk P cx F k .normal) (ops := ops.toList.toArray) (by simpa using h1) g1 (go_ok hn h2 g2 hr))
                    rw [Array.toArray_toList] at this
                    exact this
                  · cases h
                · cases h
              · rename_i ops' hs is heq
                cases heq
                split at h
                · rename_i hd
                  obtain ⟨hd, hmix⟩ := hd
                  split at h
                  · rename_i infs l' st1 φ h1
                    split at h
                    · rename_i hc
                      obtain ⟨hc, hm, hf⟩ := hc
                      split at h
                      · rename_i st2 ψ h2
                        obtain ⟨χ, h3, rfl⟩ := andG_some h
                        obtain ⟨g1, g3⟩ := hφ.append
                        obtain ⟨g1, g2⟩ := g1.append
                        have := aw_region_draw (id := id) (Q := AWk P cx F k) infs hmix hn hd hm (by simpa using hc) hf
                          (rowsX_ok (ops := ops.toList.toArray) (by simpa using h1) g1 (seqX_ok (R := AWk P cx F k .normal) (by simpa using h2) g2 (go_ok hn h3 g3 hr)))
                        rw [Array.toArray_toList] at this
                        exact this
                      · cases h
                    · cases h
                  · cases h
                · cases h
              · rename_i heq; cases heq
              · rename_i heq; cases heq
              · cases h
          | cond cc x y =>
            simp only at h
            split at h
            · exact stop h hr
            · exact pre h
            · rename_i g gs hnp
              split at h
              · rename_i heq; cases heq
              · rename_i heq; cases heq
              · rename_i cc' x' y' b heq
                cases heq
                split at h
                · rename_i b' hb
                  obtain ⟨ψ, h2, rfl⟩ := andG_some h
                  obtain ⟨g1, g2⟩ := hφ.append
                  have h3 := awk_enter (go_ok hn h2 g2 hr)
                  refine aw_cond hb (fun e => ?_) (fun e => ?_)
                  · rw [g1.1] at e; subst e; exact h3
                  · rw [g1.1] at e; subst e; exact h3
                · cases h
              · rename_i heq; cases heq
              · cases h
          | loop x =>
            simp only at h
            split at h
            · exact stop h hr
            · exact pre h
            · rename_i g gs hnp
              split at h
              · rename_i heq; cases heq
              · rename_i heq; cases heq
              · rename_i heq; cases heq
              · rename_i x' heq
                cases heq
                exact LW.round (fun a w hs => wp_mono (awk_enter (go_ok (k := .code x :: .lp x :: k) hn h hφ hr) a w hs) fun e _ _ ⟨s, h1, h2⟩ => by
                  cases e with
                  | normal => exact ⟨s, h1, h2⟩
                  | _ => exact ⟨s, h1, h2⟩)
              · cases h
          | _ =>
            simp only at h
            split at h
            · exact stop h hr
            · exact pre h
            · cases h
        | exit id' => exact (go_ok (k := k) hn h hφ hr : AWk P cx F k (.exit id') st)
        | goto l => exact (go_ok (k := k) hn h hφ hr : AWk P cx F k (.goto l) st)
        | ret => exact (go_ok (k := k) hn h hφ hr : AWk P cx F k .ret st)
        | panic ch => exact (go_ok (k := k) hn h hφ hr : AWk P cx F k (.panic ch) st)
        | outgrown => exact (go_ok (k := k) hn h hφ hr : AWk P cx F k .outgrown st)
end
end Go.Am
namespace Go.Am
open Go.RowKit (Below)

def subC : Code → Nat → Code
  | .seq a _, 0 => a
  | .seq _ b, _ => b
  | .cond _ a _, 0 => a
  | .cond _ _ b, _ => b
  | .block _ c, _ => c
  | .loop c, _ => c
  | .scope c, _ => c
  | .rangeFunc _ _ a _, 0 => a
  | .rangeFunc _ _ _ b, _ => b
  | c, _ => c

def atC : Code → List Nat → Code
  | c, [] => c
  | c, i :: p => atC (subC c i) p

def bodyOf (P : Program) (f : FuncId) : Code := match P.funcs[f]? with | some fn => fn.body.getD .skip | none => .skip
def fnOk (P : Program) (f : FuncId) (n : Nat) : Bool := match P.funcs[f]? with | some fn => fn.body.isSome && fn.ntmps == n | none => false
def EndsF (P : Program) (f : FuncId) (hss : List (List Nat)) (res : TV) (e : Exit) (s : St) : Prop := match P.funcs[f]? with | some fn => Ends P fn hss res e s | none => False

theorem holds_fn {P : Program} {f : FuncId} {n : Nat} {args : List TV} {res : TV} (hss : List (List Nat)) (hok : fnOk P f n = true) (hl : args.length ≤ n)
    (h : ∀ cx : Cx, cx.n = n → AWk P cx (EndsF P f hss res) [.code (bodyOf P f)] .normal (St.init args)) : Holds P f args res := by
  unfold fnOk at hok
  split at hok
  · rename_i fn hfn
    simp only [Bool.and_eq_true, beq_iff_eq] at hok
    obtain ⟨c, hc⟩ := Option.isSome_iff_exists.1 hok.1
    refine holds_of hss hfn hc hok.2 hl fun cx hcx => ?_
    have := awk_enter (h cx hcx)
    have hbody : bodyOf P f = c := by unfold bodyOf; rw [hfn]; show fn.body.getD .skip = c; rw [hc]; rfl
    rw [hbody] at this
    intro a w hs
    refine wp_mono (this a w hs) fun e _ _ ⟨s, h1, h2⟩ => ⟨s, ?_, h2⟩
    have h1' : EndsF P f hss res e s := h1
    unfold EndsF at h1'
    rw [hfn] at h1'
    exact h1'
  · cases hok

theorem aN : AllP [] := trivial
theorem aC {p : Prop} {ps : List Prop} (h : p) (t : AllP ps) : AllP (p :: ps) := ⟨h, t⟩
theorem r0 : 0 = 0 := rfl
theorem rt : true = true := rfl
theorem rf : false = false := rfl
theorem lq {α : Type} (l : List α) : l.length = l.length := rfl
abbrev oo : I := .op .p

/-- AWk as a structure: nobody unfolds it by chance. -/
structure Wk (P : Program) (cx : Cx) (F : Exit → St → Prop) (k : List Fr) (e : Exit) (st : St) : Prop where
  h : AWk P cx F k e st

theorem holds_wk {P : Program} {f : FuncId} {n : Nat} {args : List TV} {res : TV} (hss : List (List Nat)) (hok : fnOk P f n = true) (hl : args.length ≤ n)
    (h : ∀ cx : Cx, cx.n = n → Wk P cx (EndsF P f hss res) [.code (bodyOf P f)] .normal (St.init args)) : Holds P f args res := holds_fn hss hok hl fun cx hcx => (h cx hcx).h

theorem wk_go {P : Program} {cx : Cx} {F : Exit → St → Prop} {n fuel : Nat} {k k' : List Fr} {e e' : Exit} {st st' : St} (gs : List G) (φs : List Prop) (hn : cx.n = n) (h : goX P n fuel k e st gs = some (k', e', st', φs)) (hφ : AllP φs)
    (hr : Wk P cx F k' e' st') : Wk P cx F k e st := ⟨go_ok hn h hφ hr.h⟩

/-- The end of a function: what its result variables hold. -/
def endOf (P : Program) (f : FuncId) (hss : List (List Nat)) (s : St) : Option TV := match P.funcs[f]? with | some fn => (resU P s hss fn.results.toList).bind resT | none => none

theorem ends_ret {P : Program} {f : FuncId} {hss : List (List Nat)} {res : TV} {s : St} (h : endOf P f hss s = some res) : EndsF P f hss res .ret s ∧ EndsF P f hss res .normal s := by
  unfold endOf at h
  unfold EndsF
  split at h
  · exact ⟨h, h⟩
  · cases h

/-- A path that ends the function. -/
theorem wk_ret {P : Program} {cx : Cx} {f : FuncId} {hss : List (List Nat)} {res : TV} {n fuel : Nat} {k : List Fr} {e : Exit} {st : St} (gs : List G) (φs : List Prop) (hn : cx.n = n)
    (h : (goX P n fuel k e st gs).bind (fun r => match r.1, r.2.1 with | [], .ret => (endOf P f hss r.2.2.1).map fun v => (v, r.2.2.2) | _, _ => none) = some (res, φs)) (hφ : AllP φs) : Wk P cx (EndsF P f hss res) k e st := by
  refine ⟨?_⟩
  obtain ⟨⟨k', e', st', ψ⟩, h1, h2⟩ := Option.bind_eq_some_iff.1 h
  split at h2
  · rename_i hk he
    have hk : k' = [] := hk
    have he : e' = .ret := he
    subst hk; subst he
    obtain ⟨v, h3, h4⟩ := Option.map_eq_some_iff.1 h2
    cases h4
    exact go_ok hn h1 hφ (ends_ret h3).1
  · cases h2

theorem holdsR_wk {P : Program} {f : FuncId} {n : Nat} {args : List V} {F F' : List (Nat × Blk)} {res : V} (hok : okFn P f n = true) (hl : args.length ≤ n)
    (h : ∀ cx : Cx, cx.n = n → ∀ H exs, Wk P cx (EndsR P f (F' ++ H) exs res) [.code (codeOf P f)] .normal ⟨idxV 0 args, F ++ H, exs⟩) : HoldsR P f args F F' res :=
  holdsR_of hok hl fun cx hcx H exs => by
    have := awk_enter (h cx hcx H exs).h
    intro a w hs
    exact this a w hs

theorem holdsN_wk {P : Program} {f : FuncId} {n e sz : Nat} {args : List TV} {r : Option (List (List T))} (hok : okFn P f n = true) (hl : args.length ≤ n)
    (h : ∀ cx : Cx, cx.n = n → Wk P cx (EndsN P f e sz r) [.code (codeOf P f)] .normal (St.init args)) : HoldsN P f args e sz r :=
  holdsN_of hok hl fun cx hcx => by
    have := awk_enter (h cx hcx).h
    intro a w hs
    exact this a w hs

/-- What a function that gives a row of its own ends with. -/
def endN (P : Program) (f : FuncId) (s : St) : Option (Option (Nat × Nat × Nat × List (List T))) := match endV P f s with
  | some (.c .nil) => some none
  | some (.c (.row j 0 n)) => match s.hp.lookup j with
    | some (.row e sz es 0) => some (some (n, e, sz, es))
    | _ => none
  | _ => none

theorem wk_retN0 {P : Program} {cx : Cx} {f : FuncId} {n' e sz fuel : Nat} {k : List Fr} {en : Exit} {st : St} (gs : List G) (φs : List Prop) (hn : cx.n = n')
    (h : (goX P n' fuel k en st gs).bind (fun q => match q.1, q.2.1 with | [], .ret => (endN P f q.2.2.1).map fun v => (v, q.2.2.2) | _, _ => none) = some (none, φs)) (hφ : AllP φs) : Wk P cx (EndsN P f e sz none) k en st := by
  refine ⟨?_⟩
  obtain ⟨⟨k', e', st', ψ⟩, h1, h2⟩ := Option.bind_eq_some_iff.1 h
  split at h2
  · rename_i hk he
    have hk : k' = [] := hk
    have he : e' = .ret := he
    subst hk; subst he
    obtain ⟨v, h3, h4⟩ := Option.map_eq_some_iff.1 h2
    cases h4
    refine go_ok hn h1 hφ ⟨.inl rfl, ?_⟩
    have h3 : endN P f st' = some none := h3
    unfold endN at h3
    split at h3
    · assumption
    · split at h3 <;> cases h3
    · cases h3
  · cases h2

theorem wk_retN1 {P : Program} {cx : Cx} {f : FuncId} {n' e sz m fuel : Nat} {es0 es : List (List T)} {k : List Fr} {en : Exit} {st : St} (gs : List G) (φs : List Prop) (hn : cx.n = n')
    (h : (goX P n' fuel k en st gs).bind (fun q => match q.1, q.2.1 with | [], .ret => (endN P f q.2.2.1).map fun v => (v, q.2.2.2) | _, _ => none) = some (some (m, e, sz, es0), φs)) (hφ : AllP φs)
    (hm : m = es.length) (he : es0.take m = es) : Wk P cx (EndsN P f e sz (some es)) k en st := by
  refine ⟨?_⟩
  obtain ⟨⟨k', e', st', ψ⟩, h1, h2⟩ := Option.bind_eq_some_iff.1 h
  split at h2
  · rename_i hk hen
    have hk : k' = [] := hk
    have hen : e' = .ret := hen
    subst hk; subst hen
    obtain ⟨v, h3, h4⟩ := Option.map_eq_some_iff.1 h2
    cases h4
    refine go_ok hn h1 hφ ⟨.inl rfl, ?_⟩
    have h3 : endN P f st' = some (some (m, e, sz, es0)) := h3
    unfold endN at h3
    split at h3
    · cases h3
    · rename_i j n2 hv
      split at h3
      · rename_i hl
        cases h3
        subst hm
        exact ⟨j, es0, hv, hl, he⟩
      · cases h3
    · cases h3
  · cases h2

theorem dup_look {β : Type} (j : Nat) (a b : β) (H : List (Nat × β)) (k : Nat) : ((j, a) :: (j, b) :: H).lookup k = ((j, a) :: H).lookup k := by
  simp only [lookup_cons]
  split <;> rfl

/-- A path that ends a function called by reference. -/
theorem wk_retR {P : Program} {cx : Cx} {f : FuncId} {hp : List (Nat × Blk)} {exs : List V} {res : V} {n fuel : Nat} {k : List Fr} {e : Exit} {st : St} (gs : List G) (φs : List Prop) (hp' : List (Nat × Blk)) (hn : cx.n = n)
    (h : (goX P n fuel k e st gs).bind (fun r => match r.1, r.2.1 with | [], .ret => (endV P f r.2.2.1).map fun v => (v, r.2.2.1.hp, r.2.2.1.ex, r.2.2.2) | _, _ => none) = some (res, hp', exs, φs)) (hφ : AllP φs)
    (hhp : ∀ k, hp'.lookup k = hp.lookup k) : Wk P cx (EndsR P f hp exs res) k e st := by
  refine ⟨?_⟩
  obtain ⟨⟨k', e', st', ψ⟩, h1, h2⟩ := Option.bind_eq_some_iff.1 h
  split at h2
  · rename_i hk he
    have hk : k' = [] := hk
    have he : e' = .ret := he
    subst hk; subst he
    obtain ⟨v, h3, h4⟩ := Option.map_eq_some_iff.1 h2
    cases h4
    exact go_ok hn h1 hφ ⟨.inl rfl, hhp, rfl, h3⟩
  · cases h2

/-- A result that is nil, or the first n elements of the row j. -/
def rowRes (j : Nat) : Option Nat → V
  | none => .c .nil
  | some n => .c (.row j 0 n)

/-! ### The printed functions' ways -/
theorem bcases {α : Type} {b : Bool} {x y : Option α} {r : α} (h : (bif b then x else y) = some r) : (b = true ∧ x = some r) ∨ (b = false ∧ y = some r) := by
  cases b with
  | true => exact .inl ⟨rfl, h⟩
  | false => exact .inr ⟨rfl, h⟩

def gd {α : Type} (p : Prop) [Decidable p] (x : Option α) : Option α := if p then x else none

theorem gd_some {α : Type} {p : Prop} [Decidable p] {x : Option α} {r : α} (h : gd p x = some r) : p ∧ x = some r := by
  unfold gd at h
  split at h
  · exact ⟨by assumption, h⟩
  · cases h

theorem obind {α β : Type} {x : Option α} {f : α → Option β} {r : β} (h : x.bind f = some r) : ∃ a, x = some a ∧ f a = some r := Option.bind_eq_some_iff.1 h

/-! ### Typed lists -/
def gi {α : Type} (l : List α) (i : Int) : Option α := if 0 ≤ i then l[i.toNat]? else none

theorem gi_map {α : Type} {l : List α} {i : Int} {x : α} (h : gi l i = some x) (ce : α → List T) : 0 ≤ i ∧ (l.map ce)[i.toNat]? = some (ce x) := by
  unfold gi at h
  split at h
  · exact ⟨by assumption, by rw [List.getElem?_map, h]; rfl⟩
  · cases h

theorem len_map {α β : Type} (l : List α) (f : α → β) : (l.map f).length = l.length := List.length_map f
theorem gi_nn {α : Type} {l : List α} {i : Int} {x : α} (h : gi l i = some x) : 0 ≤ i := (gi_map h fun _ => []).1
theorem gi_at {α : Type} {l : List α} {i : Int} {x : α} (ce : α → List T) (h : gi l i = some x) : (l.map ce)[i.toNat]? = some (ce x) := (gi_map h ce).2
theorem gi_row {α : Type} {l : List α} {i : Int} {x : α} (ce : α → List T) (h : gi l i = some x) : (l.map ce)[0 + i.toNat]? = some (ce x) := by rw [Nat.zero_add]; exact gi_at ce h
theorem gi_lt {α : Type} {l : List α} {i : Int} {x : α} (h : gi l i = some x) : i < (l.length : Int) := by
  have h0 := gi_nn h
  unfold gi at h
  rw [if_pos h0] at h
  have := (List.getElem?_eq_some_iff.1 h).1
  omega
theorem gi_lt2 {α : Type} {l : List α} {i : Int} {x : α} {n : Nat} (h : gi l i = some x) (e : l.length = n) : i < (n : Int) := e ▸ gi_lt h

theorem set_map {α : Type} (l : List α) (i : Nat) (y : α) (ce : α → List T) : (l.map ce).set (0 + i) (ce y) = (l.set i y).map ce := by rw [Nat.zero_add, List.map_set]
theorem rep_map {α : Type} (n : Nat) (z : α) (ce : α → List T) : List.replicate n (ce z) = (List.replicate n z).map ce := by simp
theorem tk_map {α : Type} (l : List α) (h k : Nat) (ce : α → List T) : ((l.map ce).take h).drop k = ((l.take h).drop k).map ce := by simp [List.map_take, List.map_drop]
theorem tk0_map {α : Type} (l : List α) (h : Nat) (ce : α → List T) : ((l.map ce).take h).drop 0 = (l.take h).map ce := by simp [List.map_take]
theorem dt_map {α : Type} (l : List α) (h k : Nat) (ce : α → List T) : ((l.map ce).drop h).take k = ((l.drop h).take k).map ce := by simp [List.map_take, List.map_drop]
theorem sn_map {α : Type} (l : List α) (n : Nat) (ce : α → List T) (e : n = l.length) : ((l.map ce).drop 0).take n = l.map ce := by subst e; simp [List.take_of_length_le]
theorem app_map {α : Type} (l m : List α) (ce : α → List T) : l.map ce ++ m.map ce = (l ++ m).map ce := by simp
theorem ln_le {α : Type} {l : List α} {n : Nat} (ce : α → List T) (h : n ≤ l.length) : n ≤ (l.map ce).length := by simpa using h
theorem ln_eq {α : Type} (l : List α) (ce : α → List T) : (((l.map ce).length : Nat) : Int) = (l.length : Int) := by simp

/-- An element of a part of a list. -/
def gio {α : Type} (l : List α) (off len : Nat) (i : Int) : Option α := if 0 ≤ i ∧ i < (len : Int) then l[off + i.toNat]? else none

theorem gio_nn {α : Type} {l : List α} {off len : Nat} {i : Int} {x : α} (h : gio l off len i = some x) : 0 ≤ i := by
  unfold gio at h
  split at h
  · rename_i e; exact e.1
  · cases h
theorem gio_lt {α : Type} {l : List α} {off len : Nat} {i : Int} {x : α} (h : gio l off len i = some x) : i < (len : Int) := by
  unfold gio at h
  split at h
  · rename_i e; exact e.2
  · cases h
theorem gio_at {α : Type} {l : List α} {off len : Nat} {i : Int} {x : α} (ce : α → List T) (h : gio l off len i = some x) : (l.map ce)[off + i.toNat]? = some (ce x) := by
  unfold gio at h
  split at h
  · rw [List.getElem?_map, h]; rfl
  · cases h
theorem set_mapo {α : Type} (l : List α) (k : Nat) (y : α) (ce : α → List T) : (l.map ce).set k (ce y) = (l.set k y).map ce := by rw [List.map_set]

theorem gi_some {α : Type} {l : List α} {i : Int} {x : α} (h : gi l i = some x) : l[i.toNat]? = some x := by
  have h0 := gi_nn h
  unfold gi at h
  rw [if_pos h0] at h
  exact h

/-- What copy leaves in the part of a list. -/
def copied {α : Type} (l : List α) (off len : Nat) (m : List α) : List α := if off + len ≤ l.length then splice l off (m.take (min m.length len)) else l
@[simp] theorem copied_length {α : Type} (l : List α) (off len : Nat) (m : List α) : (copied l off len m).length = l.length := by
  unfold copied
  split
  · simp only [splice, List.length_append, List.length_take, List.length_drop]; omega
  · rfl
theorem copied_map {α : Type} (l : List α) (off len : Nat) (m : List α) (ce : α → List T) (h : off + len ≤ l.length) : splice (l.map ce) off ((m.map ce).take (min (m.map ce).length len)) = (copied l off len m).map ce := by
  simp only [copied, if_pos h, splice, List.length_map, List.map_append, List.map_take, List.map_drop, List.length_take]

/-- Room for an append: the bytes of n elements. -/
theorem room {n b : Nat} (hb : 0 < b) (h : n * b ≤ 140737488355328) : n ≤ maxLen := by
  have h1 : n ≤ n * b := Nat.le_mul_of_pos_right _ hb
  have h2 : (140737488355328 : Nat) ≤ maxLen := by decide
  omega
end Go.Am
namespace Go.Am.X

/-- 'f' answers 'r' with all fuel from some on. -/
def Ev {α : Type} (f : Nat → Option α) (r : α) : Prop := ∃ K0, ∀ K, K0 ≤ K → f K = some r

theorem ev_some {α : Type} (r : α) : Ev (fun _ => some r) r := ⟨0, fun _ _ => rfl⟩
theorem ev_bind {α β : Type} {f : Nat → Option α} {g : Nat → α → Option β} {x : α} {r : β} (hf : Ev f x) (hg : Ev (fun K => g K x) r) : Ev (fun K => (f K).bind (g K)) r := by
  obtain ⟨a, ha⟩ := hf
  obtain ⟨b, hb⟩ := hg
  exact ⟨max a b, fun K hK => by show (f K).bind (g K) = some r; rw [ha K (by omega), Option.bind_some]; exact hb K (by omega)⟩
theorem ev_one {α β : Type} {f : Option α} {g : Nat → α → Option β} {x : α} {r : β} (hf : f = some x) (hg : Ev (fun K => g K x) r) : Ev (fun K => f.bind (g K)) r := by
  subst hf; exact hg
theorem ev_succ {α : Type} {f : Nat → Option α} {r : α} (h : Ev (fun K => f (K + 1)) r) : Ev f r := by
  obtain ⟨a, ha⟩ := h
  exact ⟨a + 1, fun K hK => by
    obtain ⟨k, rfl⟩ : ∃ k, K = k + 1 := ⟨K - 1, by omega⟩
    exact ha k (by omega)⟩
theorem ev_gd {α : Type} {p : Prop} [Decidable p] {f : Nat → Option α} {r : α} (hp : p) (h : Ev f r) : Ev (fun K => gd p (f K)) r := by
  have : (fun K => gd p (f K)) = f := by funext K; exact if_pos hp
  rw [this]; exact h
theorem ev_t {α : Type} {b : Bool} {f g : Nat → Option α} {r : α} (hb : b = true) (h : Ev f r) : Ev (fun K => bif b then f K else g K) r := by subst hb; exact h
theorem ev_f {α : Type} {b : Bool} {f g : Nat → Option α} {r : α} (hb : b = false) (h : Ev g r) : Ev (fun K => bif b then f K else g K) r := by subst hb; exact h
theorem ev_if {α : Type} {b : Bool} {f g : Nat → Option α} {r : α} (ht : b = true → Ev f r) (hf : b = false → Ev g r) : Ev (fun K => bif b then f K else g K) r := by cases b; exact hf rfl; exact ht rfl
theorem ev_det {α : Type} {f : Nat → Option α} {r s : α} (h : Ev f r) (h' : Ev f s) : r = s := by
  obtain ⟨a, ha⟩ := h
  obtain ⟨b, hb⟩ := h'
  have h1 := ha (max a b) (by omega)
  have h2 := hb (max a b) (by omega)
  rw [h1] at h2; exact Option.some.inj h2
theorem ev_eq {α : Type} {f : Nat → Option α} {r s : α} (h : Ev f r) (e : r = s) : Ev f s := e ▸ h

/- Words. -/
theorem w_u32 (x : Int) : IntKind.u32.wrap x = x % 4294967296 := rfl
theorem w_u64 (x : Int) : IntKind.u64.wrap x = x % 18446744073709551616 := rfl
theorem w_u8 (x : Int) : IntKind.u8.wrap x = x % 256 := rfl
theorem w_i64 {x : Int} (h : -9223372036854775808 ≤ x ∧ x < 9223372036854775808) : IntKind.i64.wrap x = x := by
  show (if (true && decide (x % 18446744073709551616 ≥ 9223372036854775808)) = true then x % 18446744073709551616 - 18446744073709551616 else x % 18446744073709551616) = x
  split
  · rename_i h1; simp at h1; omega
  · rename_i h1; simp at h1; omega
theorem w_i8 {x : Int} (h : -128 ≤ x ∧ x < 128) : IntKind.i8.wrap x = x := by
  show (if (true && decide (x % 256 ≥ 128)) = true then x % 256 - 256 else x % 256) = x
  split
  · rename_i h1; simp at h1; omega
  · rename_i h1; simp at h1; omega
theorem w_i32 {x : Int} (h : -2147483648 ≤ x ∧ x < 2147483648) : IntKind.i32.wrap x = x := by
  show (if (true && decide (x % 4294967296 ≥ 2147483648)) = true then x % 4294967296 - 4294967296 else x % 4294967296) = x
  split
  · rename_i h1; simp at h1; omega
  · rename_i h1; simp at h1; omega
theorem shr_eq (k : IntKind) (x n : Int) : shrOp k x n = x / 2 ^ (min n.toNat k.bits) := by
  unfold shrOp; exact Int.fdiv_eq_ediv_of_nonneg _ (Int.le_of_lt (Int.pow_pos (by decide)))
theorem shr64_32 (x : Int) : shrOp .u64 x 32 = x / 4294967296 := shr_eq _ _ _
theorem shr_le {k : IntKind} {x n : Int} (h0 : 0 ≤ n) (h : n ≤ k.bits) : shrOp k x n = x / 2 ^ n.toNat := by rw [shr_eq, Nat.min_eq_left (by omega)]
theorem shl_le {k : IntKind} {x n : Int} (h0 : 0 ≤ n) (h : n ≤ k.bits) : shlOp k x n = k.wrap (x * 2 ^ n.toNat) := by unfold shlOp; rw [Nat.min_eq_left (by omega)]

theorem gi_ok {α : Type} {l : List α} {i : Int} (h0 : 0 ≤ i) (h : i.toNat < l.length) : gi l i = some l[i.toNat] := by
  unfold gi; rw [if_pos h0]; exact List.getElem?_eq_getElem h
theorem gi_nat {α : Type} {l : List α} {i : Nat} (h : i < l.length) : gi l (i : Int) = some l[i] := by
  unfold gi; rw [if_pos (by omega)]; exact List.getElem?_eq_getElem h
theorem gi_get {α : Type} {l : List α} {i : Nat} {x : α} (h : l[i]? = some x) : gi l (i : Int) = some x := by
  unfold gi; rw [if_pos (by omega)]; exact h
theorem gio_get {α : Type} {l : List α} {off len i : Nat} {x : α} (hi : i < len) (h : l[off + i]? = some x) : gio l off len (i : Int) = some x := by
  unfold gio; rw [if_pos (by omega)]; exact h

/- Numbers. -/
def Dig (l : List Int) : Prop := ∀ x ∈ l, 0 ≤ x ∧ x < 4294967296
def val : List Int → Int
  | [] => 0
  | x :: l => x + 4294967296 * val l

@[simp] theorem val_nil : val [] = 0 := rfl
@[simp] theorem val_cons (x : Int) (l : List Int) : val (x :: l) = x + 4294967296 * val l := rfl
theorem dig_nil : Dig [] := fun _ h => by cases h
theorem dig_cons {x : Int} {l : List Int} : Dig (x :: l) ↔ (0 ≤ x ∧ x < 4294967296) ∧ Dig l := by
  unfold Dig; simp
theorem dig_append {a b : List Int} : Dig (a ++ b) ↔ Dig a ∧ Dig b := by
  unfold Dig; simp only [List.mem_append]
  exact ⟨fun h => ⟨fun x hx => h x (.inl hx), fun x hx => h x (.inr hx)⟩, fun h x hx => hx.elim (h.1 x) (h.2 x)⟩
theorem dig_rep {n : Nat} {x : Int} (h : 0 ≤ x ∧ x < 4294967296) : Dig (List.replicate n x) := fun y hy => by rw [(List.mem_replicate.1 hy).2]; exact h
theorem dig_take {a : List Int} (h : Dig a) (n : Nat) : Dig (a.take n) := fun x hx => h x (List.mem_of_mem_take hx)
theorem dig_drop {a : List Int} (h : Dig a) (n : Nat) : Dig (a.drop n) := fun x hx => h x (List.mem_of_mem_drop hx)
theorem dig_get {a : List Int} (h : Dig a) {i : Nat} (hi : i < a.length) : 0 ≤ a[i] ∧ a[i] < 4294967296 := h _ (List.getElem_mem hi)
theorem dig_set {a : List Int} (h : Dig a) (i : Nat) {x : Int} (hx : 0 ≤ x ∧ x < 4294967296) : Dig (a.set i x) := fun y hy => (List.mem_or_eq_of_mem_set hy).elim (h y) (fun e => e ▸ hx)
theorem val_nonneg : ∀ {l : List Int}, Dig l → 0 ≤ val l
  | [], _ => by simp
  | x :: l, h => by have := val_nonneg (dig_cons.1 h).2; have := (dig_cons.1 h).1; simp; omega
theorem val_lt : ∀ {l : List Int}, Dig l → val l < 4294967296 ^ l.length
  | [], _ => by simp
  | x :: l, h => by
    have h1 := val_lt (dig_cons.1 h).2
    have h2 := (dig_cons.1 h).1
    simp only [val_cons, List.length_cons, Int.pow_succ]
    omega
theorem val_append : ∀ (a b : List Int), val (a ++ b) = val a + 4294967296 ^ a.length * val b
  | [], b => by simp
  | x :: a, b => by
    simp only [List.cons_append, val_cons, List.length_cons, val_append a b, Int.pow_succ]
    grind
theorem val_rep (n : Nat) : val (List.replicate n 0) = 0 := by
  induction n with
  | zero => rfl
  | succ n ih => simp [List.replicate_succ, ih]
theorem val_zero : ∀ {l : List Int}, (∀ x ∈ l, x = 0) → val l = 0
  | [], _ => rfl
  | x :: l, h => by rw [val_cons, val_zero (fun y hy => h y (List.mem_cons_of_mem _ hy)), h x (List.mem_cons_self ..)]; rfl
theorem val_take_drop (a : List Int) (n : Nat) (h : n ≤ a.length) : val a = val (a.take n) + 4294967296 ^ n * val (a.drop n) := by
  have := val_append (a.take n) (a.drop n)
  rw [List.take_append_drop, List.length_take, Nat.min_eq_left h] at this
  exact this
theorem val_set : ∀ {a : List Int} {i : Nat} (h : i < a.length) (x : Int), val (a.set i x) = val a + 4294967296 ^ i * (x - a[i])
  | y :: a, 0, _, x => by simp; omega
  | y :: a, i + 1, h, x => by
    have := val_set (a := a) (i := i) (by simpa using h) x
    simp only [List.set_cons_succ, val_cons, this, List.getElem_cons_succ, Int.pow_succ]
    grind
theorem bpow_le {m n : Nat} (h : m ≤ n) : (4294967296 : Int) ^ m ≤ 4294967296 ^ n := by
  obtain ⟨k, rfl⟩ := Nat.exists_eq_add_of_le h
  rw [Int.pow_add]
  have h1 : (0 : Int) < 4294967296 ^ m := Int.pow_pos (by decide)
  have h2 : (0 : Int) < 4294967296 ^ k := Int.pow_pos (by decide)
  have := Int.mul_le_mul_of_nonneg_left (show (1 : Int) ≤ 4294967296 ^ k from h2) (Int.le_of_lt h1)
  rw [Int.mul_one] at this; exact this
theorem bpow_pos (n : Nat) : (0 : Int) < 4294967296 ^ n := Int.pow_pos (by decide)

/-- The digits of a number. -/
def digN (n : Nat) : List Int := if n = 0 then [] else ((n % 4294967296 : Nat) : Int) :: digN (n / 4294967296)
def digs (z : Int) : List Int := digN z.toNat

theorem digN_zero : digN 0 = [] := by rw [digN, if_pos rfl]
theorem digN_pos {n : Nat} (h : n ≠ 0) : digN n = ((n % 4294967296 : Nat) : Int) :: digN (n / 4294967296) := by rw [digN, if_neg h]
theorem dig_digN (n : Nat) : Dig (digN n) := by
  induction n using Nat.strongRecOn with
  | ind n ih =>
    by_cases h : n = 0
    · rw [h, digN_zero]; exact dig_nil
    · rw [digN_pos h, dig_cons]; exact ⟨by omega, ih _ (by omega)⟩
theorem val_digN (n : Nat) : val (digN n) = n := by
  induction n using Nat.strongRecOn with
  | ind n ih =>
    by_cases h : n = 0
    · rw [h, digN_zero]; rfl
    · rw [digN_pos h, val_cons, ih _ (by omega)]; omega
theorem dig_digs (z : Int) : Dig (digs z) := dig_digN _
theorem val_digs {z : Int} (h : 0 ≤ z) : val (digs z) = z := by unfold digs; rw [val_digN]; omega
theorem digs_zero : digs 0 = [] := digN_zero
theorem digs_cons {z : Int} (h : 0 < z) : digs z = z % 4294967296 :: digs (z / 4294967296) := by
  unfold digs
  rw [digN_pos (by omega)]
  congr 1
  · omega
  · congr 1; omega
theorem digs_nil_iff {z : Int} (h : 0 ≤ z) : digs z = [] ↔ z = 0 := by
  constructor
  · intro e
    have := val_digs h
    rw [e] at this; exact this.symm
  · rintro rfl; exact digs_zero
theorem digs_len_le {z : Int} {n : Nat} (h : z < 4294967296 ^ n) : (digs z).length ≤ n := by
  induction n generalizing z with
  | zero => unfold digs; rw [show z.toNat = 0 by simp at h; omega, digN_zero]; simp
  | succ n ih =>
    by_cases hz : 0 < z
    · rw [digs_cons hz, List.length_cons]
      have := ih (z := z / 4294967296) (by rw [Int.pow_succ] at h; omega)
      omega
    · unfold digs; rw [show z.toNat = 0 by omega, digN_zero]; simp

/-- No zero at the end. -/
def Can : List Int → Prop
  | [] => True
  | x :: l => (0 ≤ x ∧ x < 4294967296) ∧ Can l ∧ (l = [] → x ≠ 0)
theorem can_pos : ∀ {l : List Int}, Can l → 0 ≤ val l ∧ (l ≠ [] → 0 < val l)
  | [], _ => ⟨by simp, fun h => absurd rfl h⟩
  | x :: l, h => by
    have h1 := can_pos h.2.1
    obtain ⟨h2, h3, h4⟩ := h
    by_cases hl : l = []
    · subst hl; have := h4 rfl; simp; omega
    · have := h1.2 hl; simp; omega
theorem digs_of_can : ∀ {l : List Int}, Can l → digs (val l) = l
  | [], _ => digs_zero
  | x :: l, h => by
    have h1 := can_pos h
    rw [digs_cons (h1.2 (by simp))]
    have h2 := can_pos h.2.1
    obtain ⟨h3, h4, h5⟩ := h
    rw [show val (x :: l) % 4294967296 = x by simp; omega, show val (x :: l) / 4294967296 = val l by simp; omega, digs_of_can h4]
theorem can_digN (n : Nat) : Can (digN n) := by
  induction n using Nat.strongRecOn with
  | ind n ih =>
    by_cases h : n = 0
    · rw [h, digN_zero]; trivial
    · rw [digN_pos h]
      refine ⟨by omega, ih _ (by omega), fun e => ?_⟩
      by_cases h2 : n / 4294967296 = 0
      · omega
      · rw [digN_pos h2] at e; cases e
theorem can_digs (z : Int) : Can (digs z) := can_digN _
theorem can_of_last : ∀ {l : List Int}, Dig l → (∀ x, l.getLast? = some x → x ≠ 0) → Can l
  | [], _, _ => trivial
  | [x], h, hl => ⟨(dig_cons.1 h).1, trivial, fun _ => hl x rfl⟩
  | x :: y :: l, h, hl => ⟨(dig_cons.1 h).1, can_of_last (dig_cons.1 h).2 (fun z hz => hl z (by rw [List.getLast?_cons_cons]; exact hz)), fun e => by cases e⟩
theorem can_last : ∀ {l : List Int}, Can l → ∀ hl : l ≠ [], l.getLast hl ≠ 0
  | [x], h, _ => h.2.2 rfl
  | x :: y :: l, h, _ => by rw [List.getLast_cons (by simp)]; exact can_last h.2.1 (by simp)
theorem can_dig : ∀ {l : List Int} (_ : Can l), Dig l
  | [], _ => dig_nil
  | _ :: _, h => dig_cons.2 ⟨h.1, can_dig h.2.1⟩
theorem can_iff {l : List Int} : Can l ↔ digs (val l) = l := ⟨digs_of_can, fun h => h ▸ can_digs _⟩
/-- A canonical list's value is at least its highest place. -/
theorem can_ge : ∀ {l : List Int}, Can l → l ≠ [] → 4294967296 ^ (l.length - 1) ≤ val l
  | [x], h, _ => by have := h.2.2 rfl; have := h.1; simp; omega
  | x :: y :: l, h, _ => by
    have h1 := can_ge h.2.1 (by simp)
    have h2 := h.1
    simp only [List.length_cons, Nat.add_sub_cancel, val_cons] at h1 ⊢
    rw [Int.pow_succ]
    omega
theorem digs_len_lt {z : Int} {n : Nat} (h0 : 0 ≤ z) (h : (digs z).length ≤ n) : z < 4294967296 ^ n := by
  have h1 := val_lt (dig_digs z)
  rw [val_digs h0] at h1
  exact Int.lt_of_lt_of_le h1 (bpow_le h)
theorem digs_inj {x y : Int} (hx : 0 ≤ x) (hy : 0 ≤ y) (h : digs x = digs y) : x = y := by rw [← val_digs hx, ← val_digs hy, h]
/-- A list is its number's digits, and zeros. -/
theorem digs_pad : ∀ {a : List Int}, Dig a → a = digs (val a) ++ List.replicate (a.length - (digs (val a)).length) 0
  | [], _ => by simp [digs_zero]
  | x :: l, h => by
    have h1 := digs_pad (dig_cons.1 h).2
    have h2 := (dig_cons.1 h).1
    have h3 := val_nonneg (dig_cons.1 h).2
    by_cases hz : val (x :: l) = 0
    · rw [hz, digs_zero]
      simp only [val_cons] at hz
      have hx : x = 0 := by omega
      have hl : val l = 0 := by omega
      rw [hl, digs_zero] at h1
      simp only [List.nil_append, List.length_nil, Nat.sub_zero] at h1 ⊢
      subst hx
      rw [List.length_cons, List.replicate_succ, ← h1]
    · have hp : 0 < val (x :: l) := by have := val_nonneg h; omega
      rw [digs_cons hp, show val (x :: l) % 4294967296 = x by simp; omega, show val (x :: l) / 4294967296 = val l by simp; omega]
      rw [List.cons_append, List.length_cons, List.length_cons, Nat.add_sub_add_right, ← h1]
theorem digs_len_le' {a : List Int} (h : Dig a) : (digs (val a)).length ≤ a.length := digs_len_le (val_lt h)
end Go.Am.X
namespace Go.Am.X
abbrev vi (k : IntKind) (n : Int) : V := .c (C.t (T.int k n))
abbrev vl {α : Type} (sz : Nat) (l : List α) (f : α → List T) : V := .c (C.t (T.sl sz (l.map f)))
abbrev tl {α : Type} (sz : Nat) (l : List α) (f : α → List T) : TV := .c (T.sl sz (l.map f))
abbrev ti (k : IntKind) (n : Int) : TV := .c (T.int k n)
def ce_u32 (x : Int) : List T := [T.int .u32 x]
def ce_Lu32 (x : List Int) : List T := [T.sl 1 (x.map ce_u32)]
def ce_u64 (x : Int) : List T := [T.int .u64 x]
def ce_bool (x : Bool) : List T := [T.bool x]
structure integer_Int where
  Neg : Bool
  Abs : (List Int)
def ce_integer_Int (x : integer_Int) : List T := [(T.bool x.Neg), (T.sl 1 (x.Abs.map ce_u32))]
def ce_i64 (x : Int) : List T := [T.int .i64 x]
def ce_Linteger_Int (x : List integer_Int) : List T := [T.sl 2 (x.map ce_integer_Int)]
def ce_Li64 (x : List Int) : List T := [T.sl 1 (x.map ce_i64)]
def ce_LLu32 (x : List (List Int)) : List T := [T.sl 1 (x.map ce_Lu32)]
def ce_LLinteger_Int (x : List (List integer_Int)) : List T := [T.sl 1 (x.map ce_Linteger_Int)]
structure A2_Lunipoly_Poly where
  e0 : (List (List integer_Int))
  e1 : (List (List integer_Int))
def ce_A2_Lunipoly_Poly (x : A2_Lunipoly_Poly) : List T := [(T.sl 1 (x.e0.map ce_Linteger_Int)), (T.sl 1 (x.e1.map ce_Linteger_Int))]
def ce_u8 (x : Int) : List T := [T.int .u8 x]
def ce_i8 (x : Int) : List T := [T.int .i8 x]
structure A3_i8 where
  e0 : Int
  e1 : Int
  e2 : Int
def ce_A3_i8 (x : A3_i8) : List T := [(T.int .i8 x.e0), (T.int .i8 x.e1), (T.int .i8 x.e2)]
def ce_LA3_i8 (x : List A3_i8) : List T := [T.sl 3 (x.map ce_A3_i8)]
def strtab_256_325 : List Int := [0, 1, 2, 2, 3, 3, 3, 3, 4, 4, 4, 4, 4, 4, 4, 4, 5, 5, 5, 5, 5, 5, 5, 5, 5, 5, 5, 5, 5, 5, 5, 5, 6, 6, 6, 6, 6, 6, 6, 6, 6, 6, 6, 6, 6, 6, 6, 6, 6, 6, 6, 6, 6, 6, 6, 6, 6, 6, 6, 6, 6, 6, 6, 6, 7, 7, 7, 7, 7, 7, 7, 7, 7, 7, 7, 7, 7, 7, 7, 7, 7, 7, 7, 7, 7, 7, 7, 7, 7, 7, 7, 7, 7, 7, 7, 7, 7, 7, 7, 7, 7, 7, 7, 7, 7, 7, 7, 7, 7, 7, 7, 7, 7, 7, 7, 7, 7, 7, 7, 7, 7, 7, 7, 7, 7, 7, 7, 7, 8, 8, 8, 8, 8, 8, 8, 8, 8, 8, 8, 8, 8, 8, 8, 8, 8, 8, 8, 8, 8, 8, 8, 8, 8, 8, 8, 8, 8, 8, 8, 8, 8, 8, 8, 8, 8, 8, 8, 8, 8, 8, 8, 8, 8, 8, 8, 8, 8, 8, 8, 8, 8, 8, 8, 8, 8, 8, 8, 8, 8, 8, 8, 8, 8, 8, 8, 8, 8, 8, 8, 8, 8, 8, 8, 8, 8, 8, 8, 8, 8, 8, 8, 8, 8, 8, 8, 8, 8, 8, 8, 8, 8, 8, 8, 8, 8, 8, 8, 8, 8, 8, 8, 8, 8, 8, 8, 8, 8, 8, 8, 8, 8, 8, 8, 8, 8, 8, 8, 8, 8, 8, 8, 8, 8, 8, 8, 8]
end Go.Am.X
namespace Go.Am.X
open Go.Proofs.Try (prog)


inductive natural_trim_Cut where
  | c0 (a : (List Int))
  | c1 (a : (List Int)) (n : Int)
  | c2 (a : (List Int)) (n : Int)

def natural_trim_go : Nat → natural_trim_Cut → Option (List Int)
  | 0, _ => none
  | K + 1, .c0 a =>
    natural_trim_go K (.c1 a (a.length : Int))
  | K + 1, .c1 a n =>
    bif (decide ((0 : Int) < n)) then
      (gi a (IntKind.i64.wrap (n - (1 : Int)))).bind fun x2 =>
      bif (decide (x2 = (0 : Int))) then
        natural_trim_go K (.c1 a (IntKind.i64.wrap (n - (1 : Int))))
      else
        natural_trim_go K (.c2 a n)
    else
      natural_trim_go K (.c2 a n)
  | _ + 1, .c2 a n =>
    bif (decide (n = (0 : Int))) then
      some []
    else
      gd (0 ≤ n ∧ 0 ≤ n.toNat ∧ n.toNat ≤ a.length) <|
      some (a.take n.toNat)

def natural_trim (K : Nat) (a : (List Int)) : Option (List Int) := natural_trim_go K (.c0 a)

noncomputable def natural_trim_body : Code := bodyOf prog 144
noncomputable def natural_trim_pos : natural_trim_Cut → List Fr
  | .c0 .. => [.code natural_trim_body]
  | .c1 .. => [.code (.loop (atC natural_trim_body [1,1,0,0,0])), .blk 0, .code (atC natural_trim_body [1,1,1])]
  | .c2 .. => [.code (atC natural_trim_body [1,1,1,0,0]), .code (atC natural_trim_body [1,1,1,0,1]), .code (atC natural_trim_body [1,1,1,1])]
def natural_trim_st : natural_trim_Cut → St
  | .c0 a => St.init [(tl 1 a ce_u32)]
  | .c1 a n => ⟨[(0, vl 1 a ce_u32), (3, vi .i64 n)], [], []⟩
  | .c2 a n => ⟨[(0, vl 1 a ce_u32), (3, vi .i64 n)], [], []⟩

def natural_trim_S (cx : Cx) (c : natural_trim_Cut) (r : (List Int)) : Prop := Wk prog cx (EndsF prog 144 [[1]] (tl 1 r ce_u32)) (natural_trim_pos c) .normal (natural_trim_st c)
abbrev natural_trim_H (K : Nat) : Prop := ∀ c r, natural_trim_go K c = some r → ∀ cx : Cx, cx.n = 23 → natural_trim_S cx c r

theorem natural_trim_c0 {K} (ih : natural_trim_H K) {cx} (hn : cx.n = 23) {a} {r} (h : natural_trim_go (K + 1) (.c0 a) = some r) : natural_trim_S cx (.c0 a) r := by
  rw [natural_trim_go] at h
  exact wk_go (fuel := 56) [.reg [oo], .reg [oo, .op (.ln (a.length : Int)), oo], .pre [.keep [0,3] []]] _ hn (by kernel_rfl) (aC (ln_eq a ce_u32) <| aN) (ih _ _ h cx hn)

theorem natural_trim_c1 {K} (ih : natural_trim_H K) {cx} (hn : cx.n = 23) {a n} {r} (h : natural_trim_go (K + 1) (.c1 a n) = some r) : natural_trim_S cx (.c1 a n) r := by
  rw [natural_trim_go] at h
  rcases bcases h with ⟨h1, h⟩ | ⟨h1, h⟩
  · skip
    obtain ⟨x2, h3, h⟩ := obind h
    rcases bcases h with ⟨h4, h⟩ | ⟨h4, h⟩
    · skip
      exact wk_go (fuel := 74) [.go, .reg [oo, oo, oo, .sb 8 true, oo, oo, oo, .op (.ix (ce_u32 x2)), oo, oo, oo], .br true, .reg [oo, oo, oo], .pre [.keep [0,3] []]] _ hn (by kernel_rfl) (aC h1 <| aC (gi_nn h3) <| aC (gi_at ce_u32 h3) <| aC h4 <| aN) (ih _ _ h cx hn)
    · skip
      exact wk_go (fuel := 72) [.go, .reg [oo, oo, oo, .sb 8 true, oo, oo, oo, .op (.ix (ce_u32 x2)), oo, oo, oo], .br false, .pre [.keep [0,3] []]] _ hn (by kernel_rfl) (aC h1 <| aC (gi_nn h3) <| aC (gi_at ce_u32 h3) <| aC h4 <| aN) (ih _ _ h cx hn)
  · skip
    exact wk_go (fuel := 72) [.go, .reg [oo, oo, oo, .sb 8 false, oo, oo, oo, oo, oo, oo, oo], .br false, .pre [.keep [0,3] []]] _ hn (by kernel_rfl) (aC h1 <| aC rf <| aN) (ih _ _ h cx hn)

theorem natural_trim_c2 {K} (_ : natural_trim_H K) {cx} (hn : cx.n = 23) {a n} {r} (h : natural_trim_go (K + 1) (.c2 a n) = some r) : natural_trim_S cx (.c2 a n) r := by
  rw [natural_trim_go] at h
  rcases bcases h with ⟨h1, h⟩ | ⟨h1, h⟩
  · skip
    have h := Option.some.inj h; subst h
    exact wk_ret (fuel := 60) [.reg [oo, oo], .br true, .reg [oo]] _ hn (by kernel_rfl) (aC h1 <| aN)
  · skip
    obtain ⟨h2, h⟩ := gd_some h
    have h := Option.some.inj h; subst h
    exact wk_ret (fuel := 60) [.reg [oo, oo], .br false, .reg [oo, oo, .op (.slT 0 n.toNat ((a.take n.toNat).map ce_u32)), oo]] _ hn (by kernel_rfl) (aC h1 <| aC r0 <| aC (⟨h2.1, rfl⟩ : 0 ≤ n ∧ n.toNat = n.toNat) <| aC h2.2.1 <| aC (ln_le _ h2.2.2 : n.toNat ≤ (a.map ce_u32).length) <| aC (tk0_map _ _ _ : ((a.map ce_u32).take n.toNat).drop 0 = (a.take n.toNat).map ce_u32) <| aN)

theorem natural_trim_all : ∀ K : Nat, natural_trim_H K
  | 0, c, r, h => by rw [natural_trim_go] at h; cases h
  | K + 1, .c0 .., r, h => fun cx hn => natural_trim_c0 (natural_trim_all K) hn h
  | K + 1, .c1 .., r, h => fun cx hn => natural_trim_c1 (natural_trim_all K) hn h
  | K + 1, .c2 .., r, h => fun cx hn => natural_trim_c2 (natural_trim_all K) hn h

theorem natural_trim_holds {K : Nat} {a : (List Int)} {r : (List Int)} (h : natural_trim K a = some r) : Holds prog 144 [(tl 1 a ce_u32)] (tl 1 r ce_u32) :=
  holds_wk [[1]] (by kernel_rfl) (by simp) fun cx hn => natural_trim_all K (.c0 a) r h cx hn
end Go.Am.X
namespace Go.Am.X
open Go.Proofs.Try (prog)


inductive natural_Normal_Cut where
  | c0 (a : (List Int))

def natural_Normal_go : Nat → natural_Normal_Cut → Option (List Int)
  | 0, _ => none
  | K + 1, .c0 a =>
    (natural_trim K a).bind fun x1 =>
    gd (x1.length * 4 ≤ 140737488355328) <|
    some x1

def natural_Normal (K : Nat) (a : (List Int)) : Option (List Int) := natural_Normal_go K (.c0 a)

noncomputable def natural_Normal_body : Code := bodyOf prog 148
noncomputable def natural_Normal_pos : natural_Normal_Cut → List Fr
  | .c0 .. => [.code natural_Normal_body]
def natural_Normal_st : natural_Normal_Cut → St
  | .c0 a => St.init [(tl 1 a ce_u32)]

def natural_Normal_S (cx : Cx) (c : natural_Normal_Cut) (r : (List Int)) : Prop := Wk prog cx (EndsF prog 148 [[1]] (tl 1 r ce_u32)) (natural_Normal_pos c) .normal (natural_Normal_st c)
abbrev natural_Normal_H (K : Nat) : Prop := ∀ c r, natural_Normal_go K c = some r → ∀ cx : Cx, cx.n = 6 → natural_Normal_S cx c r

theorem natural_Normal_c0 {K} (_ : natural_Normal_H K) {cx} (hn : cx.n = 6) {a} {r} (h : natural_Normal_go (K + 1) (.c0 a) = some r) : natural_Normal_S cx (.c0 a) r := by
  rw [natural_Normal_go] at h
  obtain ⟨x1, h2, h⟩ := obind h
  obtain ⟨h3, h⟩ := gd_some h
  have h := Option.some.inj h; subst h
  exact wk_ret (fuel := 54) [.reg [oo], .reg [oo, .op (.call [[1]] [(tl 1 a ce_u32)] (tl 1 x1 ce_u32)), .appT (x1.map ce_u32), oo]] _ hn (by kernel_rfl) (aC (natural_trim_holds h2) <| aC (rfl : x1.map ce_u32 = x1.map ce_u32) <| aC ((len_map _ _).symm ▸ h3 : (x1.map ce_u32).length * 4 ≤ 140737488355328) <| aC ((len_map _ _).symm ▸ room (by decide) h3 : (x1.map ce_u32).length ≤ maxLen) <| aN)

theorem natural_Normal_all : ∀ K : Nat, natural_Normal_H K
  | 0, c, r, h => by rw [natural_Normal_go] at h; cases h
  | K + 1, .c0 .., r, h => fun cx hn => natural_Normal_c0 (natural_Normal_all K) hn h

theorem natural_Normal_holds {K : Nat} {a : (List Int)} {r : (List Int)} (h : natural_Normal K a = some r) : Holds prog 148 [(tl 1 a ce_u32)] (tl 1 r ce_u32) :=
  holds_wk [[1]] (by kernel_rfl) (by simp) fun cx hn => natural_Normal_all K (.c0 a) r h cx hn
end Go.Am.X
namespace Go.Am.X
open Go.Proofs.Try (prog)


inductive natural_IsZero_Cut where
  | c0 (a : (List Int))

def natural_IsZero_go : Nat → natural_IsZero_Cut → Option Bool
  | 0, _ => none
  | K + 1, .c0 a =>
    (natural_trim K a).bind fun x1 =>
    some (decide ((x1.length : Int) = (0 : Int)))

def natural_IsZero (K : Nat) (a : (List Int)) : Option Bool := natural_IsZero_go K (.c0 a)

noncomputable def natural_IsZero_body : Code := bodyOf prog 97
noncomputable def natural_IsZero_pos : natural_IsZero_Cut → List Fr
  | .c0 .. => [.code natural_IsZero_body]
def natural_IsZero_st : natural_IsZero_Cut → St
  | .c0 a => St.init [(tl 1 a ce_u32)]

def natural_IsZero_S (cx : Cx) (c : natural_IsZero_Cut) (r : Bool) : Prop := Wk prog cx (EndsF prog 97 [[0]] (TV.c (T.bool r))) (natural_IsZero_pos c) .normal (natural_IsZero_st c)
abbrev natural_IsZero_H (K : Nat) : Prop := ∀ c r, natural_IsZero_go K c = some r → ∀ cx : Cx, cx.n = 7 → natural_IsZero_S cx c r

theorem natural_IsZero_c0 {K} (_ : natural_IsZero_H K) {cx} (hn : cx.n = 7) {a} {r} (h : natural_IsZero_go (K + 1) (.c0 a) = some r) : natural_IsZero_S cx (.c0 a) r := by
  rw [natural_IsZero_go] at h
  obtain ⟨x1, h2, h⟩ := obind h
  have h := Option.some.inj h; subst h
  exact wk_ret (fuel := 54) [.reg [oo], .reg [oo, .op (.call [[1]] [(tl 1 a ce_u32)] (tl 1 x1 ce_u32)), .op (.ln (x1.length : Int)), oo, oo]] _ hn (by kernel_rfl) (aC (natural_trim_holds h2) <| aC (ln_eq x1 ce_u32) <| aN)

theorem natural_IsZero_all : ∀ K : Nat, natural_IsZero_H K
  | 0, c, r, h => by rw [natural_IsZero_go] at h; cases h
  | K + 1, .c0 .., r, h => fun cx hn => natural_IsZero_c0 (natural_IsZero_all K) hn h

theorem natural_IsZero_holds {K : Nat} {a : (List Int)} {r : Bool} (h : natural_IsZero K a = some r) : Holds prog 97 [(tl 1 a ce_u32)] (TV.c (T.bool r)) :=
  holds_wk [[0]] (by kernel_rfl) (by simp) fun cx hn => natural_IsZero_all K (.c0 a) r h cx hn
end Go.Am.X
namespace Go.Am.X
open Go.Proofs.Try (prog)


inductive natural_Of_Cut where
  | c0 (n : Int)

def natural_Of_go : Nat → natural_Of_Cut → Option (List Int)
  | 0, _ => none
  | K + 1, .c0 n =>
    (natural_trim K ([(IntKind.u32.wrap n), (IntKind.u32.wrap (shrOp .u64 n (32 : Int)))] : List Int)).bind fun x1 =>
    some x1

def natural_Of (K : Nat) (n : Int) : Option (List Int) := natural_Of_go K (.c0 n)

noncomputable def natural_Of_body : Code := bodyOf prog 129
noncomputable def natural_Of_pos : natural_Of_Cut → List Fr
  | .c0 .. => [.code natural_Of_body]
def natural_Of_st : natural_Of_Cut → St
  | .c0 n => St.init [(ti .u64 n)]

def natural_Of_S (cx : Cx) (c : natural_Of_Cut) (r : (List Int)) : Prop := Wk prog cx (EndsF prog 129 [[1]] (tl 1 r ce_u32)) (natural_Of_pos c) .normal (natural_Of_st c)
abbrev natural_Of_H (K : Nat) : Prop := ∀ c r, natural_Of_go K c = some r → ∀ cx : Cx, cx.n = 10 → natural_Of_S cx c r

theorem natural_Of_c0 {K} (_ : natural_Of_H K) {cx} (hn : cx.n = 10) {n} {r} (h : natural_Of_go (K + 1) (.c0 n) = some r) : natural_Of_S cx (.c0 n) r := by
  rw [natural_Of_go] at h
  obtain ⟨x1, h2, h⟩ := obind h
  have h := Option.some.inj h; subst h
  exact wk_ret (fuel := 54) [.reg [oo], .reg [oo, oo, oo, oo, oo, .op (.lit (([(IntKind.u32.wrap n), (IntKind.u32.wrap (shrOp .u64 n (32 : Int)))] : List Int).map ce_u32)), .snap 8 (max 0 (0 + 2)) (([(IntKind.u32.wrap n), (IntKind.u32.wrap (shrOp .u64 n (32 : Int)))] : List Int).map ce_u32), .op (.call [[1]] [(TV.c (T.sl 1 (([(IntKind.u32.wrap n), (IntKind.u32.wrap (shrOp .u64 n (32 : Int)))] : List Int).map ce_u32)))] (tl 1 x1 ce_u32)), oo]] _ hn (by kernel_rfl) (aC (by kernel_rfl : [(T.int .u32 (IntKind.u32.wrap n)), (T.int .u32 (IntKind.u32.wrap (shrOp .u64 n (32 : Int))))] = (([(IntKind.u32.wrap n), (IntKind.u32.wrap (shrOp .u64 n (32 : Int)))] : List Int).map ce_u32).flatten) <| aC (sn_map _ _ _ (by simp) : ((([(IntKind.u32.wrap n), (IntKind.u32.wrap (shrOp .u64 n (32 : Int)))] : List Int).map ce_u32).drop 0).take 2 = ([(IntKind.u32.wrap n), (IntKind.u32.wrap (shrOp .u64 n (32 : Int)))] : List Int).map ce_u32) <| aC (rfl : (max 0 (0 + 2)) = (max 0 (0 + 2))) <| aC (natural_trim_holds h2) <| aN)

theorem natural_Of_all : ∀ K : Nat, natural_Of_H K
  | 0, c, r, h => by rw [natural_Of_go] at h; cases h
  | K + 1, .c0 .., r, h => fun cx hn => natural_Of_c0 (natural_Of_all K) hn h

theorem natural_Of_holds {K : Nat} {n : Int} {r : (List Int)} (h : natural_Of K n = some r) : Holds prog 129 [(ti .u64 n)] (tl 1 r ce_u32) :=
  holds_wk [[1]] (by kernel_rfl) (by simp) fun cx hn => natural_Of_all K (.c0 n) r h cx hn
end Go.Am.X
namespace Go.Am.X
open Go.Proofs.Try (prog)


inductive natural_Cmp_Cut where
  | c0 (a : (List Int)) (b : (List Int))
  | c1 (a : (List Int)) (b : (List Int)) (i : Int)

def natural_Cmp_go : Nat → natural_Cmp_Cut → Option Int
  | 0, _ => none
  | K + 1, .c0 a b =>
    (natural_trim K a).bind fun x1 =>
    (natural_trim K b).bind fun x3 =>
    bif (decide ((x3.length : Int) < (x1.length : Int))) then
      some (1 : Int)
    else
      bif (decide ((x1.length : Int) < (x3.length : Int))) then
        some (-1 : Int)
      else
        natural_Cmp_go K (.c1 x1 x3 (IntKind.i64.wrap ((x1.length : Int) - (1 : Int))))
  | K + 1, .c1 a b i =>
    bif (decide ((0 : Int) ≤ i)) then
      (gi a i).bind fun x2 =>
      (gi b i).bind fun x4 =>
      bif (decide (x4 < x2)) then
        some (1 : Int)
      else
        (gi a i).bind fun x7 =>
        (gi b i).bind fun x9 =>
        bif (decide (x7 < x9)) then
          some (-1 : Int)
        else
          natural_Cmp_go K (.c1 a b (IntKind.i64.wrap (i - (1 : Int))))
    else
      some (0 : Int)

def natural_Cmp (K : Nat) (a : (List Int)) (b : (List Int)) : Option Int := natural_Cmp_go K (.c0 a b)

noncomputable def natural_Cmp_body : Code := bodyOf prog 108
noncomputable def natural_Cmp_pos : natural_Cmp_Cut → List Fr
  | .c0 .. => [.code natural_Cmp_body]
  | .c1 .. => [.code (.loop (atC natural_Cmp_body [1,1,1,0,1,0,0])), .blk 1, .code (atC natural_Cmp_body [1,1,1,1])]
def natural_Cmp_st : natural_Cmp_Cut → St
  | .c0 a b => St.init [(tl 1 a ce_u32), (tl 1 b ce_u32)]
  | .c1 a b i => ⟨[(0, vl 1 a ce_u32), (1, vl 1 b ce_u32), (5, vi .i64 i)], [], []⟩

def natural_Cmp_S (cx : Cx) (c : natural_Cmp_Cut) (r : Int) : Prop := Wk prog cx (EndsF prog 108 [[0]] (ti .i64 r)) (natural_Cmp_pos c) .normal (natural_Cmp_st c)
abbrev natural_Cmp_H (K : Nat) : Prop := ∀ c r, natural_Cmp_go K c = some r → ∀ cx : Cx, cx.n = 47 → natural_Cmp_S cx c r

theorem natural_Cmp_c0 {K} (ih : natural_Cmp_H K) {cx} (hn : cx.n = 47) {a b} {r} (h : natural_Cmp_go (K + 1) (.c0 a b) = some r) : natural_Cmp_S cx (.c0 a b) r := by
  rw [natural_Cmp_go] at h
  obtain ⟨x1, h2, h⟩ := obind h
  obtain ⟨x3, h4, h⟩ := obind h
  rcases bcases h with ⟨h5, h⟩ | ⟨h5, h⟩
  · skip
    have h := Option.some.inj h; subst h
    exact wk_ret (fuel := 84) [.reg [oo], .reg [oo, .op (.call [[1]] [(tl 1 a ce_u32)] (tl 1 x1 ce_u32)), oo, .op (.call [[1]] [(tl 1 b ce_u32)] (tl 1 x3 ce_u32)), oo, oo], .reg [oo, .op (.ln (x1.length : Int)), oo, .op (.ln (x3.length : Int)), oo, oo], .br true, .reg [oo]] _ hn (by kernel_rfl) (aC (natural_trim_holds h2) <| aC (natural_trim_holds h4) <| aC (ln_eq x1 ce_u32) <| aC (ln_eq x3 ce_u32) <| aC h5 <| aN)
  · skip
    rcases bcases h with ⟨h6, h⟩ | ⟨h6, h⟩
    · skip
      have h := Option.some.inj h; subst h
      exact wk_ret (fuel := 98) [.reg [oo], .reg [oo, .op (.call [[1]] [(tl 1 a ce_u32)] (tl 1 x1 ce_u32)), oo, .op (.call [[1]] [(tl 1 b ce_u32)] (tl 1 x3 ce_u32)), oo, oo], .reg [oo, .op (.ln (x1.length : Int)), oo, .op (.ln (x3.length : Int)), oo, oo], .br false, .reg [oo, .op (.ln (x1.length : Int)), oo, .op (.ln (x3.length : Int)), oo, oo], .br true, .reg [oo]] _ hn (by kernel_rfl) (aC (natural_trim_holds h2) <| aC (natural_trim_holds h4) <| aC (ln_eq x1 ce_u32) <| aC (ln_eq x3 ce_u32) <| aC h5 <| aC (ln_eq x1 ce_u32) <| aC (ln_eq x3 ce_u32) <| aC h6 <| aN)
    · skip
      exact wk_go (fuel := 100) [.reg [oo], .reg [oo, .op (.call [[1]] [(tl 1 a ce_u32)] (tl 1 x1 ce_u32)), oo, .op (.call [[1]] [(tl 1 b ce_u32)] (tl 1 x3 ce_u32)), oo, oo], .reg [oo, .op (.ln (x1.length : Int)), oo, .op (.ln (x3.length : Int)), oo, oo], .br false, .reg [oo, .op (.ln (x1.length : Int)), oo, .op (.ln (x3.length : Int)), oo, oo], .br false, .reg [oo, .op (.ln (x1.length : Int)), oo, oo], .pre [.keep [0,1,5] []]] _ hn (by kernel_rfl) (aC (natural_trim_holds h2) <| aC (natural_trim_holds h4) <| aC (ln_eq x1 ce_u32) <| aC (ln_eq x3 ce_u32) <| aC h5 <| aC (ln_eq x1 ce_u32) <| aC (ln_eq x3 ce_u32) <| aC h6 <| aC (ln_eq x1 ce_u32) <| aN) (ih _ _ h cx hn)

theorem natural_Cmp_c1 {K} (ih : natural_Cmp_H K) {cx} (hn : cx.n = 47) {a b i} {r} (h : natural_Cmp_go (K + 1) (.c1 a b i) = some r) : natural_Cmp_S cx (.c1 a b i) r := by
  rw [natural_Cmp_go] at h
  rcases bcases h with ⟨h1, h⟩ | ⟨h1, h⟩
  · skip
    obtain ⟨x2, h3, h⟩ := obind h
    obtain ⟨x4, h5, h⟩ := obind h
    rcases bcases h with ⟨h6, h⟩ | ⟨h6, h⟩
    · skip
      have h := Option.some.inj h; subst h
      exact wk_ret (fuel := 104) [.go, .reg [oo, oo], .br true, .draw [.p, .p, (.ix (ce_u32 x2)), .p, .p, .p, (.ix (ce_u32 x4)), .p] [.op .p], .br true, .reg [oo]] _ hn (by kernel_rfl) (aC h1 <| aC (gi_nn h3) <| aC (gi_at ce_u32 h3) <| aC (gi_nn h5) <| aC (gi_at ce_u32 h5) <| aC h6 <| aN)
    · skip
      obtain ⟨x7, h8, h⟩ := obind h
      obtain ⟨x9, h10, h⟩ := obind h
      rcases bcases h with ⟨h11, h⟩ | ⟨h11, h⟩
      · skip
        have h := Option.some.inj h; subst h
        exact wk_ret (fuel := 118) [.go, .reg [oo, oo], .br true, .draw [.p, .p, (.ix (ce_u32 x2)), .p, .p, .p, (.ix (ce_u32 x4)), .p] [.op .p], .br false, .draw [.p, .p, (.ix (ce_u32 x7)), .p, .p, .p, (.ix (ce_u32 x9)), .p] [.op .p], .br true, .reg [oo]] _ hn (by kernel_rfl) (aC h1 <| aC (gi_nn h3) <| aC (gi_at ce_u32 h3) <| aC (gi_nn h5) <| aC (gi_at ce_u32 h5) <| aC h6 <| aC (gi_nn h8) <| aC (gi_at ce_u32 h8) <| aC (gi_nn h10) <| aC (gi_at ce_u32 h10) <| aC h11 <| aN)
      · skip
        exact wk_go (fuel := 110) [.go, .reg [oo, oo], .br true, .draw [.p, .p, (.ix (ce_u32 x2)), .p, .p, .p, (.ix (ce_u32 x4)), .p] [.op .p], .br false, .draw [.p, .p, (.ix (ce_u32 x7)), .p, .p, .p, (.ix (ce_u32 x9)), .p] [.op .p], .br false, .reg [oo, oo, oo], .pre [.keep [0,1,5] []]] _ hn (by kernel_rfl) (aC h1 <| aC (gi_nn h3) <| aC (gi_at ce_u32 h3) <| aC (gi_nn h5) <| aC (gi_at ce_u32 h5) <| aC h6 <| aC (gi_nn h8) <| aC (gi_at ce_u32 h8) <| aC (gi_nn h10) <| aC (gi_at ce_u32 h10) <| aC h11 <| aN) (ih _ _ h cx hn)
  · skip
    have h := Option.some.inj h; subst h
    exact wk_ret (fuel := 78) [.go, .reg [oo, oo], .br false, .reg [oo]] _ hn (by kernel_rfl) (aC h1 <| aN)

theorem natural_Cmp_all : ∀ K : Nat, natural_Cmp_H K
  | 0, c, r, h => by rw [natural_Cmp_go] at h; cases h
  | K + 1, .c0 .., r, h => fun cx hn => natural_Cmp_c0 (natural_Cmp_all K) hn h
  | K + 1, .c1 .., r, h => fun cx hn => natural_Cmp_c1 (natural_Cmp_all K) hn h

theorem natural_Cmp_holds {K : Nat} {a : (List Int)} {b : (List Int)} {r : Int} (h : natural_Cmp K a b = some r) : Holds prog 108 [(tl 1 a ce_u32), (tl 1 b ce_u32)] (ti .i64 r) :=
  holds_wk [[0]] (by kernel_rfl) (by simp) fun cx hn => natural_Cmp_all K (.c0 a b) r h cx hn
end Go.Am.X
namespace Go.Am.X

theorem list_take_succ_zero {a : List Int} {n : Nat} (h : a[n]? = some 0) : val (a.take (n + 1)) = val (a.take n) := by
  obtain ⟨hn, h1⟩ := List.getElem?_eq_some_iff.1 h
  have h2 : a.take (n + 1) = a.take n ++ [0] := by rw [List.take_add_one, h]; rfl
  rw [h2, val_append]; simp

theorem natural_trim_v2 {a : List Int} {n : Nat} (hd : Dig a) (hn : n ≤ a.length) (hz : n ≠ 0 → a[n - 1]? ≠ some 0) : Ev (fun K => natural_trim_go K (.c2 a n)) (digs (val (a.take n))) := by
  refine ev_succ ?_
  simp only [natural_trim_go]
  by_cases h : n = 0
  · subst h
    refine ev_t (by simp) ?_
    rw [List.take_zero, val_nil, digs_zero]; exact ev_some _
  · refine ev_f (by simp; exact h) (ev_gd (by simp; exact hn) ?_)
    rw [Int.toNat_natCast, digs_of_can]
    · exact ev_some _
    · refine can_of_last (dig_take hd n) fun x hx => ?_
      rw [List.getLast?_take, if_neg h] at hx
      rintro rfl
      have hn1 : n - 1 < a.length := by omega
      rw [List.getElem?_eq_getElem hn1] at hx
      have := hz h
      rw [List.getElem?_eq_getElem hn1] at this
      simp at hx this
      exact this hx

theorem natural_trim_v1 {a : List Int} (hd : Dig a) (hs : a.length < 4611686018427387904) : ∀ {n : Nat}, n ≤ a.length → Ev (fun K => natural_trim_go K (.c1 a n)) (digs (val (a.take n)))
  | 0, hn => by
    refine ev_succ ?_
    simp only [natural_trim_go]
    exact ev_f (by simp) (natural_trim_v2 hd hn (fun h => absurd rfl h))
  | n + 1, hn => by
    refine ev_succ ?_
    simp only [natural_trim_go]
    refine ev_t (by simp) ?_
    rw [w_i64 (by omega), show ((n + 1 : Nat) : Int) - 1 = (n : Int) by omega]
    refine ev_one (gi_nat (by omega)) ?_
    by_cases h : a[n]'(by omega) = 0
    · refine ev_t (by simp [h]) ?_
      have := natural_trim_v1 hd hs (n := n) (by omega)
      rw [list_take_succ_zero (by rw [List.getElem?_eq_getElem (by omega), h])]
      exact this
    · refine ev_f (by simp [h]) (natural_trim_v2 hd hn fun _ => ?_)
      rw [Nat.add_sub_cancel, List.getElem?_eq_getElem (by omega)]
      simpa using h

theorem natural_trim_ev {a : List Int} (hd : Dig a) (hs : a.length < 4611686018427387904) : Ev (fun K => natural_trim K a) (digs (val a)) := by
  refine ev_succ ?_
  simp only [natural_trim, natural_trim_go]
  have := natural_trim_v1 hd hs (Nat.le_refl _)
  rw [List.take_length] at this
  exact this

theorem natural_trim_digs (z : Int) (hz : 0 ≤ z) (hs : (digs z).length < 4611686018427387904) : Ev (fun K => natural_trim K (digs z)) (digs z) := by
  have := natural_trim_ev (dig_digs z) hs
  rwa [val_digs hz] at this

theorem natural_Normal_ev {a : List Int} (hd : Dig a) (hs : a.length ≤ 34359738368) : Ev (fun K => natural_Normal K a) (digs (val a)) := by
  refine ev_succ ?_
  simp only [natural_Normal, natural_Normal_go]
  refine ev_bind (natural_trim_ev hd (by omega)) (ev_gd ?_ (ev_some _))
  have := digs_len_le' hd
  omega

theorem natural_IsZero_ev {a : List Int} (hd : Dig a) (hs : a.length < 4611686018427387904) : Ev (fun K => natural_IsZero K a) (decide (val a = 0)) := by
  refine ev_succ ?_
  simp only [natural_IsZero, natural_IsZero_go]
  refine ev_bind (natural_trim_ev hd hs) (ev_eq (ev_some _) ?_)
  have := digs_nil_iff (val_nonneg hd)
  rw [decide_eq_decide, ← this]
  simp

theorem natural_Of_ev {n : Int} (h0 : 0 ≤ n) (h : n < 18446744073709551616) : Ev (fun K => natural_Of K n) (digs n) := by
  refine ev_succ ?_
  simp only [natural_Of, natural_Of_go, w_u32, shr64_32]
  have : val [n % 4294967296, n / 4294967296 % 4294967296] = n := by simp; omega
  have ht := natural_trim_ev (a := [n % 4294967296, n / 4294967296 % 4294967296]) (by simp only [dig_cons]; exact ⟨by omega, by omega, dig_nil⟩) (by simp)
  rw [this] at ht
  exact ev_bind ht (ev_some _)

/-- The order, as a number. -/
def cmpI (x y : Int) : Int := if x < y then -1 else if y < x then 1 else 0

theorem val_lt_of_len {a b : List Int} (ha : Can a) (hb : Can b) (h : a.length < b.length) : val a < val b := by
  have h1 := val_lt (can_dig ha)
  have h2 := can_ge hb (by rintro rfl; simp at h)
  have h3 := bpow_le (m := a.length) (n := b.length - 1) (by omega)
  omega

theorem natural_Cmp_v1 {a b : List Int} (ha : Dig a) (hb : Dig b) (hl : a.length = b.length) (hs : a.length < 4611686018427387904) : ∀ {n : Nat}, n ≤ a.length → a.drop n = b.drop n → Ev (fun K => natural_Cmp_go K (.c1 a b ((n : Int) - 1))) (cmpI (val a) (val b))
  | 0, _, h => by
    refine ev_succ ?_
    simp only [natural_Cmp_go]
    simp only [List.drop_zero] at h
    subst h
    refine ev_f (by simp) (ev_eq (ev_some _) ?_)
    simp [cmpI]
  | n + 1, hn, h => by
    refine ev_succ ?_
    simp only [natural_Cmp_go]
    rw [show ((n + 1 : Nat) : Int) - 1 = (n : Int) by omega]
    refine ev_t (by simp) (ev_one (gi_nat (by omega)) (ev_one (gi_nat (by omega)) ?_))
    have ea := val_take_drop a n (by omega)
    have eb := val_take_drop b n (by omega)
    rw [List.drop_eq_getElem_cons (by omega), val_cons] at ea eb
    rw [h] at ea
    have la := val_lt (dig_take ha n)
    have lb := val_lt (dig_take hb n)
    have na := val_nonneg (dig_take ha n)
    have nb := val_nonneg (dig_take hb n)
    rw [List.length_take, Nat.min_eq_left (by omega)] at la lb
    have hp := bpow_pos n
    have key : ∀ x y P s t : Int, 0 < P → s < P → 0 ≤ t → x < y → s + P * x < t + P * y := by
      intro x y P s t h1 h2 h3 h4
      have := Int.mul_le_mul_of_nonneg_left (show x + 1 ≤ y by omega) (Int.le_of_lt h1)
      rw [Int.mul_add] at this
      omega
    by_cases h1 : b[n]'(by omega) < a[n]'(by omega)
    · refine ev_t (by simp [h1]) (ev_eq (ev_some _) ?_)
      have := key _ _ _ _ _ hp lb na (show b[n]'(by omega) + 4294967296 * val (b.drop (n + 1)) < a[n]'(by omega) + 4294967296 * val (b.drop (n + 1)) by omega)
      unfold cmpI
      rw [if_neg (by omega), if_pos (by omega)]
    · refine ev_f (by simpa using h1) (ev_one (gi_nat (by omega)) (ev_one (gi_nat (by omega)) ?_))
      by_cases h2 : a[n]'(by omega) < b[n]'(by omega)
      · refine ev_t (by simp [h2]) (ev_eq (ev_some _) ?_)
        have := key _ _ _ _ _ hp la nb (show a[n]'(by omega) + 4294967296 * val (b.drop (n + 1)) < b[n]'(by omega) + 4294967296 * val (b.drop (n + 1)) by omega)
        unfold cmpI
        rw [if_pos (by omega)]
      · refine ev_f (by simpa using h2) ?_
        rw [w_i64 (by omega)]
        refine natural_Cmp_v1 ha hb hl hs (by omega) ?_
        rw [List.drop_eq_getElem_cons (by omega), List.drop_eq_getElem_cons (l := b) (by omega), h]
        congr 1; omega

theorem natural_Cmp_ev {a b : List Int} (ha : Dig a) (hb : Dig b) (hs : a.length < 4611686018427387904) (ht : b.length < 4611686018427387904) : Ev (fun K => natural_Cmp K a b) (cmpI (val a) (val b)) := by
  refine ev_succ ?_
  simp only [natural_Cmp, natural_Cmp_go]
  have va := val_digs (val_nonneg ha)
  have vb := val_digs (val_nonneg hb)
  refine ev_bind (natural_trim_ev ha hs) (ev_bind (natural_trim_ev hb ht) ?_)
  have l1 := digs_len_le' ha
  by_cases h1 : (digs (val b)).length < (digs (val a)).length
  · refine ev_t (by simpa using h1) (ev_eq (ev_some _) ?_)
    have := val_lt_of_len (can_digs _) (can_digs _) h1
    unfold cmpI
    rw [if_neg (by omega), if_pos (by omega)]
  · refine ev_f (by simpa using h1) ?_
    by_cases h2 : (digs (val a)).length < (digs (val b)).length
    · refine ev_t (by simpa using h2) (ev_eq (ev_some _) ?_)
      have := val_lt_of_len (can_digs _) (can_digs _) h2
      unfold cmpI
      rw [if_pos (by omega)]
    · refine ev_f (by simpa using h2) ?_
      rw [w_i64 (by omega)]
      have := natural_Cmp_v1 (dig_digs (val a)) (dig_digs (val b)) (by omega) (by omega) (n := (digs (val a)).length) (by omega) (by rw [List.drop_of_length_le (by omega), List.drop_of_length_le (by omega)])
      rw [va, vb] at this
      exact this
end Go.Am.X
namespace Go.Am.X
open Go.Proofs.Try (prog)


inductive math_bits_Add32_Cut where
  | c0 (x : Int) (y : Int) (carry : Int)

def math_bits_Add32_go : Nat → math_bits_Add32_Cut → Option (Int × Int)
  | 0, _ => none
  | _ + 1, .c0 x y carry =>
    some ((IntKind.u32.wrap (IntKind.u64.wrap ((IntKind.u64.wrap ((IntKind.u64.wrap x) + (IntKind.u64.wrap y))) + (IntKind.u64.wrap carry)))), (IntKind.u32.wrap (shrOp .u64 (IntKind.u64.wrap ((IntKind.u64.wrap ((IntKind.u64.wrap x) + (IntKind.u64.wrap y))) + (IntKind.u64.wrap carry))) (32 : Int))))

def math_bits_Add32 (K : Nat) (x : Int) (y : Int) (carry : Int) : Option (Int × Int) := math_bits_Add32_go K (.c0 x y carry)

noncomputable def math_bits_Add32_body : Code := bodyOf prog 150
noncomputable def math_bits_Add32_pos : math_bits_Add32_Cut → List Fr
  | .c0 .. => [.code math_bits_Add32_body]
def math_bits_Add32_st : math_bits_Add32_Cut → St
  | .c0 x y carry => St.init [(ti .u32 x), (ti .u32 y), (ti .u32 carry)]

def math_bits_Add32_S (cx : Cx) (c : math_bits_Add32_Cut) (r : (Int × Int)) : Prop := Wk prog cx (EndsF prog 150 [[0], [0]] (TV.tup [(false, [(T.int .u32 r.1)]), (false, [(T.int .u32 r.2)])])) (math_bits_Add32_pos c) .normal (math_bits_Add32_st c)
abbrev math_bits_Add32_H (K : Nat) : Prop := ∀ c r, math_bits_Add32_go K c = some r → ∀ cx : Cx, cx.n = 22 → math_bits_Add32_S cx c r

theorem math_bits_Add32_c0 {K} (_ : math_bits_Add32_H K) {cx} (hn : cx.n = 22) {x y carry} {r} (h : math_bits_Add32_go (K + 1) (.c0 x y carry) = some r) : math_bits_Add32_S cx (.c0 x y carry) r := by
  rw [math_bits_Add32_go] at h
  have h := Option.some.inj h; subst h
  exact wk_ret (fuel := 70) [.reg [oo, oo], .reg [oo, oo, oo, oo, oo, oo, oo, oo, oo], .reg [oo, oo, oo], .reg [oo, oo, oo, oo]] _ hn (by kernel_rfl) aN

theorem math_bits_Add32_all : ∀ K : Nat, math_bits_Add32_H K
  | 0, c, r, h => by rw [math_bits_Add32_go] at h; cases h
  | K + 1, .c0 .., r, h => fun cx hn => math_bits_Add32_c0 (math_bits_Add32_all K) hn h

theorem math_bits_Add32_holds {K : Nat} {x : Int} {y : Int} {carry : Int} {r : (Int × Int)} (h : math_bits_Add32 K x y carry = some r) : Holds prog 150 [(ti .u32 x), (ti .u32 y), (ti .u32 carry)] (TV.tup [(false, [(T.int .u32 r.1)]), (false, [(T.int .u32 r.2)])]) :=
  holds_wk [[0], [0]] (by kernel_rfl) (by simp) fun cx hn => math_bits_Add32_all K (.c0 x y carry) r h cx hn
end Go.Am.X
namespace Go.Am.X
open Go.Proofs.Try (prog)


inductive math_bits_Mul32_Cut where
  | c0 (x : Int) (y : Int)

def math_bits_Mul32_go : Nat → math_bits_Mul32_Cut → Option (Int × Int)
  | 0, _ => none
  | _ + 1, .c0 x y =>
    some ((IntKind.u32.wrap (shrOp .u64 (IntKind.u64.wrap ((IntKind.u64.wrap x) * (IntKind.u64.wrap y))) (32 : Int))), (IntKind.u32.wrap (IntKind.u64.wrap ((IntKind.u64.wrap x) * (IntKind.u64.wrap y)))))

def math_bits_Mul32 (K : Nat) (x : Int) (y : Int) : Option (Int × Int) := math_bits_Mul32_go K (.c0 x y)

noncomputable def math_bits_Mul32_body : Code := bodyOf prog 174
noncomputable def math_bits_Mul32_pos : math_bits_Mul32_Cut → List Fr
  | .c0 .. => [.code math_bits_Mul32_body]
def math_bits_Mul32_st : math_bits_Mul32_Cut → St
  | .c0 x y => St.init [(ti .u32 x), (ti .u32 y)]

def math_bits_Mul32_S (cx : Cx) (c : math_bits_Mul32_Cut) (r : (Int × Int)) : Prop := Wk prog cx (EndsF prog 174 [[0], [0]] (TV.tup [(false, [(T.int .u32 r.1)]), (false, [(T.int .u32 r.2)])])) (math_bits_Mul32_pos c) .normal (math_bits_Mul32_st c)
abbrev math_bits_Mul32_H (K : Nat) : Prop := ∀ c r, math_bits_Mul32_go K c = some r → ∀ cx : Cx, cx.n = 17 → math_bits_Mul32_S cx c r

theorem math_bits_Mul32_c0 {K} (_ : math_bits_Mul32_H K) {cx} (hn : cx.n = 17) {x y} {r} (h : math_bits_Mul32_go (K + 1) (.c0 x y) = some r) : math_bits_Mul32_S cx (.c0 x y) r := by
  rw [math_bits_Mul32_go] at h
  have h := Option.some.inj h; subst h
  exact wk_ret (fuel := 62) [.reg [oo, oo], .reg [oo, oo, oo, oo, oo, oo], .reg [oo, oo, oo, oo, oo, oo, oo]] _ hn (by kernel_rfl) aN

theorem math_bits_Mul32_all : ∀ K : Nat, math_bits_Mul32_H K
  | 0, c, r, h => by rw [math_bits_Mul32_go] at h; cases h
  | K + 1, .c0 .., r, h => fun cx hn => math_bits_Mul32_c0 (math_bits_Mul32_all K) hn h

theorem math_bits_Mul32_holds {K : Nat} {x : Int} {y : Int} {r : (Int × Int)} (h : math_bits_Mul32 K x y = some r) : Holds prog 174 [(ti .u32 x), (ti .u32 y)] (TV.tup [(false, [(T.int .u32 r.1)]), (false, [(T.int .u32 r.2)])]) :=
  holds_wk [[0], [0]] (by kernel_rfl) (by simp) fun cx hn => math_bits_Mul32_all K (.c0 x y) r h cx hn
end Go.Am.X
namespace Go.Am.X
open Go.Proofs.Try (prog)


inductive natural_Mul_Cut where
  | c0 (a : (List Int)) (b : (List Int))
  | c1 (r32 : (List Int)) (b : (List Int)) (t33 : (List Int)) (t34 : Int) (t35 : Int)
  | c2 (r32 : (List Int)) (b : (List Int)) (t33 : (List Int)) (t34 : Int) (t35 : Int)
  | c3 (r32 : (List Int)) (b : (List Int)) (i : Int) (x : Int) (carry : Int) (off_row : Nat) (len_row : Nat) (t33 : (List Int)) (t34 : Int) (t35 : Int) (t49 : (List Int)) (t50 : Int) (t51 : Int)

def natural_Mul_go : Nat → natural_Mul_Cut → Option (List Int)
  | 0, _ => none
  | K + 1, .c0 a b =>
    (natural_trim K a).bind fun x1 =>
    (natural_trim K b).bind fun x3 =>
    bif (decide ((x1.length : Int) = (0 : Int))) then
      some []
    else
      bif (decide ((x3.length : Int) = (0 : Int))) then
        some []
      else
        gd (0 ≤ (IntKind.i64.wrap ((x1.length : Int) + (x3.length : Int))) ∧ (IntKind.i64.wrap ((x1.length : Int) + (x3.length : Int))) ≤ (IntKind.i64.wrap ((x1.length : Int) + (x3.length : Int))) ∧ (4 : Int) * (IntKind.i64.wrap ((x1.length : Int) + (x3.length : Int))) ≤ 140737488355328) <|
        natural_Mul_go K (.c1 (List.replicate (IntKind.i64.wrap ((x1.length : Int) + (x3.length : Int))).toNat ((0 : Int) : Int)) x3 x1 (x1.length : Int) (0 : Int))
  | K + 1, .c1 r32 b t33 t34 t35 =>
    bif (decide (t35 < t34)) then
      (gi t33 t35).bind fun x2 =>
      bif (decide (x2 = (0 : Int))) then
        natural_Mul_go K (.c2 r32 b t33 t34 t35)
      else
        gd (0 ≤ t35 ∧ 0 ≤ (IntKind.i64.wrap (t35 + (b.length : Int))) ∧ t35.toNat ≤ (IntKind.i64.wrap (t35 + (b.length : Int))).toNat ∧ (IntKind.i64.wrap (t35 + (b.length : Int))).toNat ≤ r32.length ∧ (t35.toNat = 0 ∨ t35.toNat < r32.length)) <|
        natural_Mul_go K (.c3 r32 b t35 x2 (0 : Int) (0 + t35.toNat) ((IntKind.i64.wrap (t35 + (b.length : Int))).toNat - t35.toNat) t33 t34 t35 b (b.length : Int) (0 : Int))
    else
      (natural_trim K r32).bind fun x2 =>
      some x2
  | K + 1, .c2 r32 b t33 t34 t35 =>
    natural_Mul_go K (.c1 r32 b t33 t34 (IntKind.i64.wrap (t35 + (1 : Int))))
  | K + 1, .c3 r32 b i x carry off_row len_row t33 t34 t35 t49 t50 t51 =>
    bif (decide (t51 < t50)) then
      (gi t49 t51).bind fun x2 =>
      (math_bits_Mul32 K x x2).bind fun x4 =>
      (gio r32 off_row len_row t51).bind fun x6 =>
      (math_bits_Add32 K x4.2 x6 (0 : Int)).bind fun x8 =>
      (math_bits_Add32 K x8.1 carry (0 : Int)).bind fun x10 =>
      (gio r32 off_row len_row t51).bind fun _ =>
      natural_Mul_go K (.c3 (r32.set (off_row + t51.toNat) x10.1) b i x (IntKind.u32.wrap ((IntKind.u32.wrap (x4.1 + x8.2)) + x10.2)) off_row len_row t33 t34 t35 t49 t50 (IntKind.i64.wrap (t51 + (1 : Int))))
    else
      (gi r32 (IntKind.i64.wrap (i + (b.length : Int)))).bind fun _ =>
      natural_Mul_go K (.c2 (r32.set ((IntKind.i64.wrap (i + (b.length : Int))).toNat) carry) b t33 t34 t35)

def natural_Mul (K : Nat) (a : (List Int)) (b : (List Int)) : Option (List Int) := natural_Mul_go K (.c0 a b)

noncomputable def natural_Mul_body : Code := bodyOf prog 130
noncomputable def natural_Mul_pos : natural_Mul_Cut → List Fr
  | .c0 .. => [.code natural_Mul_body]
  | .c1 .. => [.code (.loop (atC natural_Mul_body [1,1,1,1,0,1,0,0])), .blk 0, .code (atC natural_Mul_body [1,1,1,1,1])]
  | .c2 .. => [.code (atC natural_Mul_body [1,1,1,1,0,1,0,0,1,1,1]), .lp (atC natural_Mul_body [1,1,1,1,0,1,0,0]), .blk 0, .code (atC natural_Mul_body [1,1,1,1,1])]
  | .c3 .. => [.code (.loop (atC natural_Mul_body [1,1,1,1,0,1,0,0,1,1,0,0,1,1,1,1,0,1,0,0])), .blk 2, .code (atC natural_Mul_body [1,1,1,1,0,1,0,0,1,1,0,0,1,1,1,1,1]), .blk 1, .code (atC natural_Mul_body [1,1,1,1,0,1,0,0,1,1,1]), .lp (atC natural_Mul_body [1,1,1,1,0,1,0,0]), .blk 0, .code (atC natural_Mul_body [1,1,1,1,1])]
def natural_Mul_st : natural_Mul_Cut → St
  | .c0 a b => St.init [(tl 1 a ce_u32), (tl 1 b ce_u32)]
  | .c1 r32 b t33 t34 t35 => ⟨[(1, vl 1 b ce_u32), (5, .c (C.row 32 0 r32.length)), (33, vl 1 t33 ce_u32), (34, vi .i64 t34), (35, vi .i64 t35)], [(32, .row 101 1 (r32.map ce_u32) 0)], []⟩
  | .c2 r32 b t33 t34 t35 => ⟨[(1, vl 1 b ce_u32), (5, .c (C.row 32 0 r32.length)), (33, vl 1 t33 ce_u32), (34, vi .i64 t34), (35, vi .i64 t35)], [(32, .row 101 1 (r32.map ce_u32) 0)], []⟩
  | .c3 r32 b i x carry off_row len_row t33 t34 t35 t49 t50 t51 => ⟨[(1, vl 1 b ce_u32), (5, .c (C.row 32 0 r32.length)), (6, vi .i64 i), (7, vi .u32 x), (8, vi .u32 carry), (9, .c (C.row 32 off_row len_row)), (33, vl 1 t33 ce_u32), (34, vi .i64 t34), (35, vi .i64 t35), (49, vl 1 t49 ce_u32), (50, vi .i64 t50), (51, vi .i64 t51)], [(32, .row 101 1 (r32.map ce_u32) 0)], []⟩

def natural_Mul_S (cx : Cx) (c : natural_Mul_Cut) (r : (List Int)) : Prop := Wk prog cx (EndsF prog 130 [[1]] (tl 1 r ce_u32)) (natural_Mul_pos c) .normal (natural_Mul_st c)
abbrev natural_Mul_H (K : Nat) : Prop := ∀ c r, natural_Mul_go K c = some r → ∀ cx : Cx, cx.n = 98 → natural_Mul_S cx c r

theorem natural_Mul_c0 {K} (ih : natural_Mul_H K) {cx} (hn : cx.n = 98) {a b} {r} (h : natural_Mul_go (K + 1) (.c0 a b) = some r) : natural_Mul_S cx (.c0 a b) r := by
  rw [natural_Mul_go] at h
  obtain ⟨x1, h2, h⟩ := obind h
  obtain ⟨x3, h4, h⟩ := obind h
  rcases bcases h with ⟨h5, h⟩ | ⟨h5, h⟩
  · skip
    have h := Option.some.inj h; subst h
    exact wk_ret (fuel := 80) [.reg [oo], .reg [oo, .op (.call [[1]] [(tl 1 a ce_u32)] (tl 1 x1 ce_u32)), oo, .op (.call [[1]] [(tl 1 b ce_u32)] (tl 1 x3 ce_u32)), oo, oo], .reg [oo, .op (.ln (x1.length : Int)), oo, oo, .sb 22 true, oo, oo, oo, oo], .br true, .reg [oo]] _ hn (by kernel_rfl) (aC (natural_trim_holds h2) <| aC (natural_trim_holds h4) <| aC (ln_eq x1 ce_u32) <| aC h5 <| aC rt <| aN)
  · skip
    rcases bcases h with ⟨h6, h⟩ | ⟨h6, h⟩
    · skip
      have h := Option.some.inj h; subst h
      exact wk_ret (fuel := 80) [.reg [oo], .reg [oo, .op (.call [[1]] [(tl 1 a ce_u32)] (tl 1 x1 ce_u32)), oo, .op (.call [[1]] [(tl 1 b ce_u32)] (tl 1 x3 ce_u32)), oo, oo], .reg [oo, .op (.ln (x1.length : Int)), oo, oo, .sb 22 false, oo, .op (.ln (x3.length : Int)), oo, oo], .br true, .reg [oo]] _ hn (by kernel_rfl) (aC (natural_trim_holds h2) <| aC (natural_trim_holds h4) <| aC (ln_eq x1 ce_u32) <| aC h5 <| aC (ln_eq x3 ce_u32) <| aC h6 <| aN)
    · skip
      obtain ⟨h7, h⟩ := gd_some h
      exact wk_go (fuel := 90) [.reg [oo], .reg [oo, .op (.call [[1]] [(tl 1 a ce_u32)] (tl 1 x1 ce_u32)), oo, .op (.call [[1]] [(tl 1 b ce_u32)] (tl 1 x3 ce_u32)), oo, oo], .reg [oo, .op (.ln (x1.length : Int)), oo, oo, .sb 22 false, oo, .op (.ln (x3.length : Int)), oo, oo], .br false, .reg [oo, .op (.ln (x1.length : Int)), oo, .op (.ln (x3.length : Int)), oo, .op (.mk (ce_u32 (0 : Int)) ((List.replicate (IntKind.i64.wrap ((x1.length : Int) + (x3.length : Int))).toNat ((0 : Int) : Int)).map ce_u32)), oo], .reg [oo, .op (.ln (x1.length : Int)), oo], .pre [.rl 5 0 (List.replicate (IntKind.i64.wrap ((x1.length : Int) + (x3.length : Int))).toNat ((0 : Int) : Int)).length, .keep [1,5,33,34,35] [32]]] _ hn (by kernel_rfl) (aC (natural_trim_holds h2) <| aC (natural_trim_holds h4) <| aC (ln_eq x1 ce_u32) <| aC h5 <| aC (ln_eq x3 ce_u32) <| aC h6 <| aC (ln_eq x1 ce_u32) <| aC (ln_eq x3 ce_u32) <| aC h7.1 <| aC h7.2.1 <| aC h7.2.2 <| aC (rep_map _ _ _ : List.replicate (IntKind.i64.wrap ((x1.length : Int) + (x3.length : Int))).toNat (ce_u32 (0 : Int)) = (List.replicate (IntKind.i64.wrap ((x1.length : Int) + (x3.length : Int))).toNat ((0 : Int) : Int)).map ce_u32) <| aC (ln_eq x1 ce_u32) <| aC r0 <| aC (by simp : (IntKind.i64.wrap ((x1.length : Int) + (x3.length : Int))).toNat = (List.replicate (IntKind.i64.wrap ((x1.length : Int) + (x3.length : Int))).toNat ((0 : Int) : Int)).length) <| aN) (ih _ _ h cx hn)

theorem natural_Mul_c1 {K} (ih : natural_Mul_H K) {cx} (hn : cx.n = 98) {r32 b t33 t34 t35} {r} (h : natural_Mul_go (K + 1) (.c1 r32 b t33 t34 t35) = some r) : natural_Mul_S cx (.c1 r32 b t33 t34 t35) r := by
  rw [natural_Mul_go] at h
  rcases bcases h with ⟨h1, h⟩ | ⟨h1, h⟩
  · skip
    obtain ⟨x2, h3, h⟩ := obind h
    rcases bcases h with ⟨h4, h⟩ | ⟨h4, h⟩
    · skip
      exact wk_go (fuel := 96) [.go, .reg [oo], .br true, .reg [oo, .op (.ix (ce_u32 x2)), oo, oo, oo], .reg [oo, oo], .br true, .pre [.rl 5 0 r32.length, .keep [1,5,33,34,35] [32]]] _ hn (by kernel_rfl) (aC h1 <| aC (gi_nn h3) <| aC (gi_at ce_u32 h3) <| aC h4 <| aC r0 <| aC (lq r32) <| aN) (ih _ _ h cx hn)
    · skip
      obtain ⟨h5, h⟩ := gd_some h
      exact wk_go (fuel := 120) [.go, .reg [oo], .br true, .reg [oo, .op (.ix (ce_u32 x2)), oo, oo, oo], .reg [oo, oo], .br false, .reg [oo], .reg [oo, oo, oo, oo, .op (.ln (b.length : Int)), oo, .op (.slR t35.toNat ((IntKind.i64.wrap (t35 + (b.length : Int))).toNat) (0 + t35.toNat) ((IntKind.i64.wrap (t35 + (b.length : Int))).toNat - t35.toNat)), oo], .reg [oo, .op (.ln (b.length : Int)), oo], .pre [.rl 5 0 r32.length, .keep [1,5,6,7,8,9,33,34,35,49,50,51] [32]]] _ hn (by kernel_rfl) (aC h1 <| aC (gi_nn h3) <| aC (gi_at ce_u32 h3) <| aC h4 <| aC (ln_eq b ce_u32) <| aC (⟨h5.1, rfl⟩ : 0 ≤ t35 ∧ t35.toNat = t35.toNat) <| aC (⟨h5.2.1, rfl⟩ : 0 ≤ (IntKind.i64.wrap (t35 + (b.length : Int))) ∧ (IntKind.i64.wrap (t35 + (b.length : Int))).toNat = (IntKind.i64.wrap (t35 + (b.length : Int))).toNat) <| aC h5.2.2.1 <| aC h5.2.2.2.1 <| aC h5.2.2.2.2 <| aC (rfl : 0 + t35.toNat = (0 + t35.toNat)) <| aC (rfl : (IntKind.i64.wrap (t35 + (b.length : Int))).toNat - t35.toNat = ((IntKind.i64.wrap (t35 + (b.length : Int))).toNat - t35.toNat)) <| aC (ln_eq b ce_u32) <| aC r0 <| aC (lq r32) <| aN) (ih _ _ h cx hn)
  · skip
    obtain ⟨x2, h3, h⟩ := obind h
    have h := Option.some.inj h; subst h
    exact wk_ret (fuel := 78) [.go, .reg [oo], .br false, .reg [oo, .snap 96 (max 0 (0 + r32.length)) (r32.map ce_u32), .op (.call [[1]] [(tl 1 r32 ce_u32)] (tl 1 x2 ce_u32)), oo]] _ hn (by kernel_rfl) (aC h1 <| aC (sn_map _ _ _ (by simp) : ((r32.map ce_u32).drop 0).take r32.length = r32.map ce_u32) <| aC (rfl : (max 0 (0 + r32.length)) = (max 0 (0 + r32.length))) <| aC (natural_trim_holds h3) <| aN)

theorem natural_Mul_c2 {K} (ih : natural_Mul_H K) {cx} (hn : cx.n = 98) {r32 b t33 t34 t35} {r} (h : natural_Mul_go (K + 1) (.c2 r32 b t33 t34 t35) = some r) : natural_Mul_S cx (.c2 r32 b t33 t34 t35) r := by
  rw [natural_Mul_go] at h
  exact wk_go (fuel := 44) [.reg [oo, oo], .pre [.rl 5 0 r32.length, .keep [1,5,33,34,35] [32]]] _ hn (by kernel_rfl) (aC r0 <| aC (lq r32) <| aN) (ih _ _ h cx hn)

theorem natural_Mul_c3 {K} (ih : natural_Mul_H K) {cx} (hn : cx.n = 98) {r32 b i x carry off_row len_row t33 t34 t35 t49 t50 t51} {r} (h : natural_Mul_go (K + 1) (.c3 r32 b i x carry off_row len_row t33 t34 t35 t49 t50 t51) = some r) : natural_Mul_S cx (.c3 r32 b i x carry off_row len_row t33 t34 t35 t49 t50 t51) r := by
  rw [natural_Mul_go] at h
  rcases bcases h with ⟨h1, h⟩ | ⟨h1, h⟩
  · skip
    obtain ⟨x2, h3, h⟩ := obind h
    obtain ⟨x4, h5, h⟩ := obind h
    obtain ⟨x6, h7, h⟩ := obind h
    obtain ⟨x8, h9, h⟩ := obind h
    obtain ⟨x10, h11, h⟩ := obind h
    obtain ⟨x12, h13, h⟩ := obind h
    exact wk_go (fuel := 122) [.go, .reg [oo], .br true, .reg [oo, .op (.ix (ce_u32 x2)), oo, oo, oo], .reg [oo, oo, .op (.call [[0], [0]] [(ti .u32 x), (ti .u32 x2)] (TV.tup [(false, [(T.int .u32 x4.1)]), (false, [(T.int .u32 x4.2)])])), oo, oo, oo, oo, oo], .reg [oo, oo, oo, .op .ir, .op (.ld (ce_u32 x6)), .op (.call [[0], [0], [0]] [(ti .u32 x4.2), (ti .u32 x6), (TV.c (T.int .u32 (0 : Int)))] (TV.tup [(false, [(T.int .u32 x8.1)]), (false, [(T.int .u32 x8.2)])])), oo, oo, oo, oo, oo], .reg [oo, oo, oo, oo], .reg [oo, oo, .op (.call [[0], [0], [0]] [(ti .u32 x8.1), (ti .u32 carry), (TV.c (T.int .u32 (0 : Int)))] (TV.tup [(false, [(T.int .u32 x10.1)]), (false, [(T.int .u32 x10.2)])])), oo, oo, oo, oo, oo], .reg [oo, oo, oo, oo, oo, oo, .op .ir, .op (.st (ce_u32 x12) ((r32.set (off_row + t51.toNat) x10.1).map ce_u32)), oo], .reg [oo, oo], .pre [.rl 5 0 (r32.set (off_row + t51.toNat) x10.1).length, .keep [1,5,6,7,8,9,33,34,35,49,50,51] [32]]] _ hn (by kernel_rfl) (aC h1 <| aC (gi_nn h3) <| aC (gi_at ce_u32 h3) <| aC (math_bits_Mul32_holds h5) <| aC (gio_nn h7) <| aC (gio_lt h7) <| aC (gio_at ce_u32 h7) <| aC (math_bits_Add32_holds h9) <| aC (math_bits_Add32_holds h11) <| aC (gio_nn h13) <| aC (gio_lt h13) <| aC (gio_at ce_u32 h13) <| aC (set_mapo _ _ x10.1 _ : (r32.map ce_u32).set (off_row + t51.toNat) (splice (ce_u32 x12) 0 [(T.int .u32 x10.1)]) = (r32.set (off_row + t51.toNat) x10.1).map ce_u32) <| aC (Nat.zero_le _ : 0 ≤ (off_row + t51.toNat)) <| aC r0 <| aC (by simp : r32.length = (r32.set (off_row + t51.toNat) x10.1).length) <| aN) (ih _ _ h cx hn)
  · skip
    obtain ⟨x2, h3, h⟩ := obind h
    exact wk_go (fuel := 76) [.go, .reg [oo], .br false, .reg [oo, oo, oo, .op (.ln (b.length : Int)), oo, oo, .op .ir, .op (.st (ce_u32 x2) ((r32.set ((IntKind.i64.wrap (i + (b.length : Int))).toNat) carry).map ce_u32))], .pre [.rl 5 0 (r32.set ((IntKind.i64.wrap (i + (b.length : Int))).toNat) carry).length, .keep [1,5,33,34,35] [32]]] _ hn (by kernel_rfl) (aC h1 <| aC (ln_eq b ce_u32) <| aC (gi_nn h3) <| aC (gi_lt2 h3 (by simp) : (IntKind.i64.wrap (i + (b.length : Int))) < ((r32.length : Nat) : Int)) <| aC (gi_row ce_u32 h3 : (r32.map ce_u32)[(0 + (IntKind.i64.wrap (i + (b.length : Int))).toNat)]? = some (ce_u32 x2)) <| aC (set_map _ _ carry _ : (r32.map ce_u32).set (0 + (IntKind.i64.wrap (i + (b.length : Int))).toNat) (splice (ce_u32 x2) 0 [(T.int .u32 carry)]) = (r32.set ((IntKind.i64.wrap (i + (b.length : Int))).toNat) carry).map ce_u32) <| aC (Nat.zero_le _ : 0 ≤ (0 + (IntKind.i64.wrap (i + (b.length : Int))).toNat)) <| aC r0 <| aC (by simp : r32.length = (r32.set ((IntKind.i64.wrap (i + (b.length : Int))).toNat) carry).length) <| aN) (ih _ _ h cx hn)

theorem natural_Mul_all : ∀ K : Nat, natural_Mul_H K
  | 0, c, r, h => by rw [natural_Mul_go] at h; cases h
  | K + 1, .c0 .., r, h => fun cx hn => natural_Mul_c0 (natural_Mul_all K) hn h
  | K + 1, .c1 .., r, h => fun cx hn => natural_Mul_c1 (natural_Mul_all K) hn h
  | K + 1, .c2 .., r, h => fun cx hn => natural_Mul_c2 (natural_Mul_all K) hn h
  | K + 1, .c3 .., r, h => fun cx hn => natural_Mul_c3 (natural_Mul_all K) hn h

theorem natural_Mul_holds {K : Nat} {a : (List Int)} {b : (List Int)} {r : (List Int)} (h : natural_Mul K a b = some r) : Holds prog 130 [(tl 1 a ce_u32), (tl 1 b ce_u32)] (tl 1 r ce_u32) :=
  holds_wk [[1]] (by kernel_rfl) (by simp) fun cx hn => natural_Mul_all K (.c0 a b) r h cx hn
end Go.Am.X
namespace Go.Am.X

theorem math_bits_Add32_ev {x y c : Int} (hx : 0 ≤ x ∧ x < 4294967296) (hy : 0 ≤ y ∧ y < 4294967296) (hc : 0 ≤ c ∧ c < 4294967296) :
    Ev (fun K => math_bits_Add32 K x y c) ((x + y + c) % 4294967296, (x + y + c) / 4294967296) := by
  refine ev_succ ?_
  simp only [math_bits_Add32, math_bits_Add32_go, w_u32, w_u64, shr64_32]
  refine ev_eq (ev_some _) ?_
  ext
  · show _ = _; simp only; omega
  · show _ = _; simp only; omega

theorem prod_lt {x y : Int} (hx : 0 ≤ x ∧ x < 4294967296) (hy : 0 ≤ y ∧ y < 4294967296) : 0 ≤ x * y ∧ x * y ≤ 18446744065119617025 := by
  refine ⟨Int.mul_nonneg hx.1 hy.1, ?_⟩
  have := Int.mul_le_mul (show x ≤ 4294967295 by omega) (show y ≤ 4294967295 by omega) hy.1 (by omega)
  simpa using this

theorem math_bits_Mul32_ev {x y : Int} (hx : 0 ≤ x ∧ x < 4294967296) (hy : 0 ≤ y ∧ y < 4294967296) :
    Ev (fun K => math_bits_Mul32 K x y) (x * y / 4294967296, x * y % 4294967296) := by
  refine ev_succ ?_
  simp only [math_bits_Mul32, math_bits_Mul32_go, w_u32, w_u64, shr64_32]
  have := prod_lt hx hy
  refine ev_eq (ev_some _) ?_
  rw [Int.emod_eq_of_lt hx.1 (by omega), Int.emod_eq_of_lt hy.1 (by omega)]
  ext
  · show _ = _; simp only; omega
  · show _ = _; simp only; omega

theorem mul_step {x y r c : Int} (hx : 0 ≤ x ∧ x < 4294967296) (hy : 0 ≤ y ∧ y < 4294967296) (hr : 0 ≤ r ∧ r < 4294967296) (hc : 0 ≤ c ∧ c < 4294967296) :
    (x * y % 4294967296 + r + 0) % 4294967296 + c + 0 < 4294967296 * 2 ∧
    ∃ n d : Int, ((x * y % 4294967296 + r + 0) % 4294967296 + c + 0) % 4294967296 = n ∧ ((x * y / 4294967296 + (x * y % 4294967296 + r + 0) / 4294967296) % 4294967296 + ((x * y % 4294967296 + r + 0) % 4294967296 + c + 0) / 4294967296) % 4294967296 = d ∧
    n + 4294967296 * d = x * y + r + c ∧ (0 ≤ n ∧ n < 4294967296) ∧ (0 ≤ d ∧ d < 4294967296) := by
  have := prod_lt hx hy
  generalize x * y = P at *
  refine ⟨by omega, _, _, rfl, rfl, ?_, by omega, by omega⟩
  omega

/-- One row. -/
theorem natural_Mul_v3 {b t33 : List Int} {t34 : Int} {i : Nat} {x : Int} {r : List Int} (hb : Dig b) (hx : 0 ≤ x ∧ x < 4294967296) (R : List Int) (V : Int) (hR : b.length < 2305843009213693952) (hi : i < 2305843009213693952)
    (hend : ∀ (r' : List Int), Dig r' → r'.length = R.length → val r' = V + x * (4294967296 ^ i * val b) → (∀ j, i + b.length < j → r'[j]? = R[j]?) → Ev (fun K => natural_Mul_go K (.c2 r' b t33 t34 i)) r) :
    ∀ (m k : Nat) (c : Int) (q : List Int), k + m = b.length → (0 ≤ c ∧ c < 4294967296) → Dig q → q.length = R.length → val q + 4294967296 ^ (i + k) * c = V + x * (4294967296 ^ i * val (b.take k)) → (∀ j, i + k ≤ j → q[j]? = R[j]?) → i + b.length < R.length → R[i + b.length]? = some 0 →
      Ev (fun K => natural_Mul_go K (.c3 q b i x c i b.length t33 t34 i b b.length k)) r
  | 0, k, c, q, hk, hc, hq, hl, hv, hu, hlt, hz => by
    refine ev_succ ?_
    simp only [natural_Mul_go]
    refine ev_f (by simp; omega) ?_
    rw [w_i64 (by omega), show (i : Int) + (b.length : Int) = ((i + b.length : Nat) : Int) by omega]
    refine ev_one (gi_nat (by omega)) ?_
    rw [Int.toNat_natCast]
    have hk' : k = b.length := by omega
    subst hk'
    refine hend _ (dig_set hq _ hc) (by simpa using hl) ?_ fun j hj => ?_
    · rw [val_set (by omega)]
      have h0 : q[i + b.length]'(by omega) = 0 := by
        have := hu (i + b.length) (Nat.le_refl _)
        rw [hz, List.getElem?_eq_getElem (by omega)] at this
        exact Option.some.inj this
      rw [h0, Int.sub_zero, hv, List.take_length]
    · rw [List.getElem?_set_ne (by omega)]
      exact hu j (by omega)
  | m + 1, k, c, q, hk, hc, hq, hl, hv, hu, hlt, hz => by
    refine ev_succ ?_
    simp only [natural_Mul_go]
    refine ev_t (by simp; omega) ?_
    have hkb : k < b.length := by omega
    have hik : i + k < q.length := by omega
    have hy := dig_get hb hkb
    have hr := dig_get hq hik
    refine ev_one (gi_nat hkb) (ev_bind (math_bits_Mul32_ev hx hy) (ev_one (gio_get hkb (List.getElem?_eq_getElem hik)) ?_))
    refine ev_bind (math_bits_Add32_ev ⟨by simp only; omega, by simp only; omega⟩ hr (by decide)) ?_
    refine ev_bind (math_bits_Add32_ev ⟨by simp only; omega, by simp only; omega⟩ hc (by decide)) ?_
    refine ev_one (gio_get hkb (List.getElem?_eq_getElem hik)) ?_
    simp only [w_u32]
    obtain ⟨_, n, d, e1, e2, e3, hn, hd⟩ := mul_step hx hy hr hc
    rw [e1, e2, w_i64 (by omega), show (k : Int) + 1 = ((k + 1 : Nat) : Int) by omega, Int.toNat_natCast]
    refine natural_Mul_v3 hb hx R V hR hi hend m (k + 1) d _ (by omega) hd (dig_set hq _ hn) (by simpa using hl) ?_ (fun j hj => ?_) hlt hz
    · rw [val_set hik, List.take_add_one, List.getElem?_eq_getElem hkb]
      simp only [Option.toList_some]
      rw [val_append, List.length_take, Nat.min_eq_left (by omega), ← Nat.add_assoc, Int.pow_succ]
      simp only [val_cons, val_nil, Int.mul_zero, Int.add_zero]
      rw [Int.pow_add] at *
      generalize (4294967296 : Int) ^ i = A at *
      generalize (4294967296 : Int) ^ k = C at *
      grind
    · rw [List.getElem?_set_ne (by omega)]
      exact hu j (by omega)

theorem natural_Mul_v1 {a b : List Int} (ha : Dig a) (hb : Dig b) (hR : a.length + b.length < 2305843009213693952) (L : Nat) (hL : L = a.length + b.length) :
    ∀ (m i : Nat) (q : List Int), i + m = a.length → Dig q → q.length = L → val q = val (a.take i) * val b → (∀ j, i + b.length ≤ j → j < L → q[j]? = some 0) →
      Ev (fun K => natural_Mul_go K (.c1 q b a a.length i)) (digs (val a * val b))
  | 0, i, q, hi, hq, hl, hv, hz => by
    refine ev_succ ?_
    simp only [natural_Mul_go]
    refine ev_f (by simp; omega) ?_
    have := natural_trim_ev hq (by omega)
    rw [hv, List.take_of_length_le (by omega)] at this
    exact ev_bind this (ev_some _)
  | m + 1, i, q, hi, hq, hl, hv, hz => by
    refine ev_succ ?_
    simp only [natural_Mul_go]
    have hia : i < a.length := by omega
    refine ev_t (by simp; omega) (ev_one (gi_nat hia) ?_)
    have hx := dig_get ha hia
    have e : val (a.take (i + 1)) = val (a.take i) + 4294967296 ^ i * a[i] := by
      rw [List.take_add_one, List.getElem?_eq_getElem hia, Option.toList_some, val_append, List.length_take, Nat.min_eq_left (by omega)]
      simp
    have next : ∀ r' : List Int, Dig r' → r'.length = L → val r' = val (a.take (i + 1)) * val b → (∀ j, i + b.length < j → r'[j]? = q[j]?) → Ev (fun K => natural_Mul_go K (.c2 r' b a a.length i)) (digs (val a * val b)) := by
      intro r' h1 h2 h3 h4
      refine ev_succ ?_
      simp only [natural_Mul_go]
      rw [w_i64 (by omega), show (i : Int) + 1 = ((i + 1 : Nat) : Int) by omega]
      exact natural_Mul_v1 ha hb hR L hL m (i + 1) r' (by omega) h1 h2 h3 fun j hj hjl => by rw [h4 j (by omega)]; exact hz j (by omega) hjl
    by_cases h0 : a[i] = 0
    · refine ev_t (by simpa using h0) (next q hq hl ?_ fun _ _ => rfl)
      rw [hv, e, h0]; simp
    · refine ev_f (by simpa using h0) (ev_gd ?_ ?_)
      · rw [w_i64 (by omega)]; omega
      · have e1 : 0 + (i : Int).toNat = i := by omega
        have e2 : (IntKind.i64.wrap ((i : Int) + (b.length : Int))).toNat - (i : Int).toNat = b.length := by rw [w_i64 (by omega)]; omega
        rw [e1, e2]
        refine natural_Mul_v3 (i := i) hb hx q (val q) (by omega) (by omega) ?_ b.length 0 0 q (by omega) (by decide) hq rfl (by simp) (fun j _ => rfl) (by omega) (hz _ (by omega) (by omega))
        intro r' h1 h2 h3 h4
        refine next r' h1 (by omega) ?_ h4
        rw [h3, hv, e]
        grind

theorem natural_Mul_ev {a b : List Int} (ha : Dig a) (hb : Dig b) (hs : a.length + b.length ≤ 34359738368) : Ev (fun K => natural_Mul K a b) (digs (val a * val b)) := by
  refine ev_succ ?_
  simp only [natural_Mul, natural_Mul_go]
  have va := val_digs (val_nonneg ha)
  have vb := val_digs (val_nonneg hb)
  have la := digs_len_le' ha
  have lb := digs_len_le' hb
  refine ev_bind (natural_trim_ev ha (by omega)) (ev_bind (natural_trim_ev hb (by omega)) ?_)
  by_cases h1 : digs (val a) = []
  · refine ev_t (by simp [h1]) (ev_eq (ev_some _) ?_)
    rw [(digs_nil_iff (val_nonneg ha)).1 h1, Int.zero_mul, digs_zero]
  · refine ev_f (by simpa using h1) ?_
    by_cases h2 : digs (val b) = []
    · refine ev_t (by simp [h2]) (ev_eq (ev_some _) ?_)
      rw [(digs_nil_iff (val_nonneg hb)).1 h2, Int.mul_zero, digs_zero]
    · refine ev_f (by simpa using h2) ?_
      rw [w_i64 (by omega)]
      refine ev_gd (by omega) ?_
      have := natural_Mul_v1 (dig_digs (val a)) (dig_digs (val b)) (by omega) _ rfl (digs (val a)).length 0 (List.replicate ((digs (val a)).length + (digs (val b)).length) 0) (by omega) (dig_rep (by decide)) (by simp) (by rw [val_rep]; simp) (fun j _ hj => by rw [List.getElem?_replicate, if_pos hj])
      rw [va, vb] at this
      rw [show (((digs (val a)).length : Int) + ((digs (val b)).length : Int)).toNat = (digs (val a)).length + (digs (val b)).length by omega]
      exact this
end Go.Am.X
namespace Go.Am.X
open Go.Proofs.Try (prog)


inductive integer_made_Cut where
  | c0 (neg : Bool) (abs : (List Int))

def integer_made_go : Nat → integer_made_Cut → Option integer_Int
  | 0, _ => none
  | _ + 1, .c0 neg abs =>
    bif neg then
      some (integer_Int.mk (decide ((0 : Int) < (abs.length : Int))) abs)
    else
      some (integer_Int.mk false abs)

def integer_made (K : Nat) (neg : Bool) (abs : (List Int)) : Option integer_Int := integer_made_go K (.c0 neg abs)

noncomputable def integer_made_body : Code := bodyOf prog 105
noncomputable def integer_made_pos : integer_made_Cut → List Fr
  | .c0 .. => [.code integer_made_body]
def integer_made_st : integer_made_Cut → St
  | .c0 neg abs => St.init [(TV.c (T.bool neg)), (tl 1 abs ce_u32)]

def integer_made_S (cx : Cx) (c : integer_made_Cut) (r : integer_Int) : Prop := Wk prog cx (EndsF prog 105 [[0,1]] (TV.agg (ce_integer_Int r))) (integer_made_pos c) .normal (integer_made_st c)
abbrev integer_made_H (K : Nat) : Prop := ∀ c r, integer_made_go K c = some r → ∀ cx : Cx, cx.n = 13 → integer_made_S cx c r

theorem integer_made_c0 {K} (_ : integer_made_H K) {cx} (hn : cx.n = 13) {neg abs} {r} (h : integer_made_go (K + 1) (.c0 neg abs) = some r) : integer_made_S cx (.c0 neg abs) r := by
  rw [integer_made_go] at h
  rcases bcases h with ⟨h1, h⟩ | ⟨h1, h⟩
  · skip
    have h := Option.some.inj h; subst h
    exact wk_ret (fuel := 54) [.reg [oo], .reg [oo, oo, .sb 6 true, oo, .op (.ln (abs.length : Int)), oo, oo, oo, oo, oo]] _ hn (by kernel_rfl) (aC h1 <| aC (ln_eq abs ce_u32) <| aN)
  · skip
    have h := Option.some.inj h; subst h
    exact wk_ret (fuel := 54) [.reg [oo], .reg [oo, oo, .sb 6 false, oo, oo, oo, oo, oo, oo, oo]] _ hn (by kernel_rfl) (aC h1 <| aN)

theorem integer_made_all : ∀ K : Nat, integer_made_H K
  | 0, c, r, h => by rw [integer_made_go] at h; cases h
  | K + 1, .c0 .., r, h => fun cx hn => integer_made_c0 (integer_made_all K) hn h

theorem integer_made_holds {K : Nat} {neg : Bool} {abs : (List Int)} {r : integer_Int} (h : integer_made K neg abs = some r) : Holds prog 105 [(TV.c (T.bool neg)), (tl 1 abs ce_u32)] (TV.agg (ce_integer_Int r)) :=
  holds_wk [[0,1]] (by kernel_rfl) (by simp) fun cx hn => integer_made_all K (.c0 neg abs) r h cx hn
end Go.Am.X
namespace Go.Am.X
open Go.Proofs.Try (prog)


inductive integer_From_Cut where
  | c0 (neg : Bool) (a : (List Int))

def integer_From_go : Nat → integer_From_Cut → Option integer_Int
  | 0, _ => none
  | K + 1, .c0 neg a =>
    (natural_Normal K a).bind fun x1 =>
    (integer_made K neg x1).bind fun x3 =>
    some x3

def integer_From (K : Nat) (neg : Bool) (a : (List Int)) : Option integer_Int := integer_From_go K (.c0 neg a)

noncomputable def integer_From_body : Code := bodyOf prog 104
noncomputable def integer_From_pos : integer_From_Cut → List Fr
  | .c0 .. => [.code integer_From_body]
def integer_From_st : integer_From_Cut → St
  | .c0 neg a => St.init [(TV.c (T.bool neg)), (tl 1 a ce_u32)]

def integer_From_S (cx : Cx) (c : integer_From_Cut) (r : integer_Int) : Prop := Wk prog cx (EndsF prog 104 [[0,1]] (TV.agg (ce_integer_Int r))) (integer_From_pos c) .normal (integer_From_st c)
abbrev integer_From_H (K : Nat) : Prop := ∀ c r, integer_From_go K c = some r → ∀ cx : Cx, cx.n = 9 → integer_From_S cx c r

theorem integer_From_c0 {K} (_ : integer_From_H K) {cx} (hn : cx.n = 9) {neg a} {r} (h : integer_From_go (K + 1) (.c0 neg a) = some r) : integer_From_S cx (.c0 neg a) r := by
  rw [integer_From_go] at h
  obtain ⟨x1, h2, h⟩ := obind h
  obtain ⟨x3, h4, h⟩ := obind h
  have h := Option.some.inj h; subst h
  exact wk_ret (fuel := 54) [.reg [oo], .reg [oo, oo, .op (.call [[1]] [(tl 1 a ce_u32)] (tl 1 x1 ce_u32)), .op (.call [[0], [1]] [(TV.c (T.bool neg)), (tl 1 x1 ce_u32)] (TV.agg (ce_integer_Int x3))), oo]] _ hn (by kernel_rfl) (aC (natural_Normal_holds h2) <| aC (integer_made_holds h4) <| aN)

theorem integer_From_all : ∀ K : Nat, integer_From_H K
  | 0, c, r, h => by rw [integer_From_go] at h; cases h
  | K + 1, .c0 .., r, h => fun cx hn => integer_From_c0 (integer_From_all K) hn h

theorem integer_From_holds {K : Nat} {neg : Bool} {a : (List Int)} {r : integer_Int} (h : integer_From K neg a = some r) : Holds prog 104 [(TV.c (T.bool neg)), (tl 1 a ce_u32)] (TV.agg (ce_integer_Int r)) :=
  holds_wk [[0,1]] (by kernel_rfl) (by simp) fun cx hn => integer_From_all K (.c0 neg a) r h cx hn
end Go.Am.X
namespace Go.Am.X
open Go.Proofs.Try (prog)


inductive integer_Of_Cut where
  | c0 (n : Int)

def integer_Of_go : Nat → integer_Of_Cut → Option integer_Int
  | 0, _ => none
  | K + 1, .c0 n =>
    bif (decide (n < (0 : Int))) then
      (natural_Of K (IntKind.u64.wrap (0 - (IntKind.u64.wrap n)))).bind fun x2 =>
      (integer_made K true x2).bind fun x4 =>
      some x4
    else
      (natural_Of K (IntKind.u64.wrap n)).bind fun x2 =>
      (integer_made K false x2).bind fun x4 =>
      some x4

def integer_Of (K : Nat) (n : Int) : Option integer_Int := integer_Of_go K (.c0 n)

noncomputable def integer_Of_body : Code := bodyOf prog 71
noncomputable def integer_Of_pos : integer_Of_Cut → List Fr
  | .c0 .. => [.code integer_Of_body]
def integer_Of_st : integer_Of_Cut → St
  | .c0 n => St.init [(ti .i64 n)]

def integer_Of_S (cx : Cx) (c : integer_Of_Cut) (r : integer_Int) : Prop := Wk prog cx (EndsF prog 71 [[0,1]] (TV.agg (ce_integer_Int r))) (integer_Of_pos c) .normal (integer_Of_st c)
abbrev integer_Of_H (K : Nat) : Prop := ∀ c r, integer_Of_go K c = some r → ∀ cx : Cx, cx.n = 14 → integer_Of_S cx c r

theorem integer_Of_c0 {K} (_ : integer_Of_H K) {cx} (hn : cx.n = 14) {n} {r} (h : integer_Of_go (K + 1) (.c0 n) = some r) : integer_Of_S cx (.c0 n) r := by
  rw [integer_Of_go] at h
  rcases bcases h with ⟨h1, h⟩ | ⟨h1, h⟩
  · skip
    obtain ⟨x2, h3, h⟩ := obind h
    obtain ⟨x4, h5, h⟩ := obind h
    have h := Option.some.inj h; subst h
    exact wk_ret (fuel := 72) [.reg [oo], .reg [oo, oo], .br true, .reg [oo, oo, oo, .op (.call [[0]] [(TV.c (T.int .u64 (IntKind.u64.wrap (0 - (IntKind.u64.wrap n)))))] (tl 1 x2 ce_u32)), .op (.call [[0], [1]] [(TV.c (T.bool true)), (tl 1 x2 ce_u32)] (TV.agg (ce_integer_Int x4))), oo]] _ hn (by kernel_rfl) (aC h1 <| aC (natural_Of_holds h3) <| aC (integer_made_holds h5) <| aN)
  · skip
    obtain ⟨x2, h3, h⟩ := obind h
    obtain ⟨x4, h5, h⟩ := obind h
    have h := Option.some.inj h; subst h
    exact wk_ret (fuel := 72) [.reg [oo], .reg [oo, oo], .br false, .reg [oo, oo, .op (.call [[0]] [(TV.c (T.int .u64 (IntKind.u64.wrap n)))] (tl 1 x2 ce_u32)), .op (.call [[0], [1]] [(TV.c (T.bool false)), (tl 1 x2 ce_u32)] (TV.agg (ce_integer_Int x4))), oo]] _ hn (by kernel_rfl) (aC h1 <| aC (natural_Of_holds h3) <| aC (integer_made_holds h5) <| aN)

theorem integer_Of_all : ∀ K : Nat, integer_Of_H K
  | 0, c, r, h => by rw [integer_Of_go] at h; cases h
  | K + 1, .c0 .., r, h => fun cx hn => integer_Of_c0 (integer_Of_all K) hn h

theorem integer_Of_holds {K : Nat} {n : Int} {r : integer_Int} (h : integer_Of K n = some r) : Holds prog 71 [(ti .i64 n)] (TV.agg (ce_integer_Int r)) :=
  holds_wk [[0,1]] (by kernel_rfl) (by simp) fun cx hn => integer_Of_all K (.c0 n) r h cx hn
end Go.Am.X
namespace Go.Am.X
open Go.Proofs.Try (prog)


inductive integer_Sign_Cut where
  | c0 (a : integer_Int)

def integer_Sign_go : Nat → integer_Sign_Cut → Option Int
  | 0, _ => none
  | K + 1, .c0 a =>
    (natural_IsZero K a.Abs).bind fun x1 =>
    bif x1 then
      some (0 : Int)
    else
      bif a.Neg then
        some (-1 : Int)
      else
        some (1 : Int)

def integer_Sign (K : Nat) (a : integer_Int) : Option Int := integer_Sign_go K (.c0 a)

noncomputable def integer_Sign_body : Code := bodyOf prog 47
noncomputable def integer_Sign_pos : integer_Sign_Cut → List Fr
  | .c0 .. => [.code integer_Sign_body]
def integer_Sign_st : integer_Sign_Cut → St
  | .c0 a => St.init [(TV.agg (ce_integer_Int a))]

def integer_Sign_S (cx : Cx) (c : integer_Sign_Cut) (r : Int) : Prop := Wk prog cx (EndsF prog 47 [[0]] (ti .i64 r)) (integer_Sign_pos c) .normal (integer_Sign_st c)
abbrev integer_Sign_H (K : Nat) : Prop := ∀ c r, integer_Sign_go K c = some r → ∀ cx : Cx, cx.n = 10 → integer_Sign_S cx c r

theorem integer_Sign_c0 {K} (_ : integer_Sign_H K) {cx} (hn : cx.n = 10) {a} {r} (h : integer_Sign_go (K + 1) (.c0 a) = some r) : integer_Sign_S cx (.c0 a) r := by
  rw [integer_Sign_go] at h
  obtain ⟨x1, h2, h⟩ := obind h
  rcases bcases h with ⟨h3, h⟩ | ⟨h3, h⟩
  · skip
    have h := Option.some.inj h; subst h
    exact wk_ret (fuel := 76) [.reg [oo, oo], .reg [oo, oo, .op (.call [[1]] [(TV.c (T.sl 1 (a.Abs.map ce_u32)))] (TV.c (T.bool x1))), oo], .br true, .reg [oo]] _ hn (by kernel_rfl) (aC (natural_IsZero_holds h2) <| aC h3 <| aN)
  · skip
    rcases bcases h with ⟨h4, h⟩ | ⟨h4, h⟩
    · skip
      have h := Option.some.inj h; subst h
      exact wk_ret (fuel := 90) [.reg [oo, oo], .reg [oo, oo, .op (.call [[1]] [(TV.c (T.sl 1 (a.Abs.map ce_u32)))] (TV.c (T.bool x1))), oo], .br false, .reg [oo, oo, oo], .br true, .reg [oo]] _ hn (by kernel_rfl) (aC (natural_IsZero_holds h2) <| aC h3 <| aC h4 <| aN)
    · skip
      have h := Option.some.inj h; subst h
      exact wk_ret (fuel := 90) [.reg [oo, oo], .reg [oo, oo, .op (.call [[1]] [(TV.c (T.sl 1 (a.Abs.map ce_u32)))] (TV.c (T.bool x1))), oo], .br false, .reg [oo, oo, oo], .br false, .reg [oo]] _ hn (by kernel_rfl) (aC (natural_IsZero_holds h2) <| aC h3 <| aC h4 <| aN)

theorem integer_Sign_all : ∀ K : Nat, integer_Sign_H K
  | 0, c, r, h => by rw [integer_Sign_go] at h; cases h
  | K + 1, .c0 .., r, h => fun cx hn => integer_Sign_c0 (integer_Sign_all K) hn h

theorem integer_Sign_holds {K : Nat} {a : integer_Int} {r : Int} (h : integer_Sign K a = some r) : Holds prog 47 [(TV.agg (ce_integer_Int a))] (ti .i64 r) :=
  holds_wk [[0]] (by kernel_rfl) (by simp) fun cx hn => integer_Sign_all K (.c0 a) r h cx hn
end Go.Am.X
namespace Go.Am.X
open Go.Proofs.Try (prog)


inductive integer_Cmp_Cut where
  | c0 (a : integer_Int) (b : integer_Int)

def integer_Cmp_go : Nat → integer_Cmp_Cut → Option Int
  | 0, _ => none
  | K + 1, .c0 a b =>
    (integer_Sign K a).bind fun x1 =>
    (integer_Sign K b).bind fun x3 =>
    bif (decide (x3 < x1)) then
      some (1 : Int)
    else
      bif (decide (x1 < x3)) then
        some (-1 : Int)
      else
        bif (decide (x1 < (0 : Int))) then
          (natural_Cmp K b.Abs a.Abs).bind fun x8 =>
          some x8
        else
          (natural_Cmp K a.Abs b.Abs).bind fun x8 =>
          some x8

def integer_Cmp (K : Nat) (a : integer_Int) (b : integer_Int) : Option Int := integer_Cmp_go K (.c0 a b)

noncomputable def integer_Cmp_body : Code := bodyOf prog 55
noncomputable def integer_Cmp_pos : integer_Cmp_Cut → List Fr
  | .c0 .. => [.code integer_Cmp_body]
def integer_Cmp_st : integer_Cmp_Cut → St
  | .c0 a b => St.init [(TV.agg (ce_integer_Int a)), (TV.agg (ce_integer_Int b))]

def integer_Cmp_S (cx : Cx) (c : integer_Cmp_Cut) (r : Int) : Prop := Wk prog cx (EndsF prog 55 [[0]] (ti .i64 r)) (integer_Cmp_pos c) .normal (integer_Cmp_st c)
abbrev integer_Cmp_H (K : Nat) : Prop := ∀ c r, integer_Cmp_go K c = some r → ∀ cx : Cx, cx.n = 32 → integer_Cmp_S cx c r

theorem integer_Cmp_c0 {K} (_ : integer_Cmp_H K) {cx} (hn : cx.n = 32) {a b} {r} (h : integer_Cmp_go (K + 1) (.c0 a b) = some r) : integer_Cmp_S cx (.c0 a b) r := by
  rw [integer_Cmp_go] at h
  obtain ⟨x1, h2, h⟩ := obind h
  obtain ⟨x3, h4, h⟩ := obind h
  rcases bcases h with ⟨h5, h⟩ | ⟨h5, h⟩
  · skip
    have h := Option.some.inj h; subst h
    exact wk_ret (fuel := 84) [.reg [oo, oo, oo], .draw [.p, (.call [[0,1]] [(TV.agg (ce_integer_Int a))] (ti .i64 x1)), .p] [.op (.call [[0,1]] [(TV.agg (ce_integer_Int b))] (ti .i64 x3)), .op .p, .op .p], .reg [oo, oo, oo, oo], .br true, .reg [oo]] _ hn (by kernel_rfl) (aC (integer_Sign_holds h2) <| aC (integer_Sign_holds h4) <| aC h5 <| aN)
  · skip
    rcases bcases h with ⟨h6, h⟩ | ⟨h6, h⟩
    · skip
      have h := Option.some.inj h; subst h
      exact wk_ret (fuel := 98) [.reg [oo, oo, oo], .draw [.p, (.call [[0,1]] [(TV.agg (ce_integer_Int a))] (ti .i64 x1)), .p] [.op (.call [[0,1]] [(TV.agg (ce_integer_Int b))] (ti .i64 x3)), .op .p, .op .p], .reg [oo, oo, oo, oo], .br false, .reg [oo, oo, oo, oo], .br true, .reg [oo]] _ hn (by kernel_rfl) (aC (integer_Sign_holds h2) <| aC (integer_Sign_holds h4) <| aC h5 <| aC h6 <| aN)
    · skip
      rcases bcases h with ⟨h7, h⟩ | ⟨h7, h⟩
      · skip
        obtain ⟨x8, h9, h⟩ := obind h
        have h := Option.some.inj h; subst h
        exact wk_ret (fuel := 112) [.reg [oo, oo, oo], .draw [.p, (.call [[0,1]] [(TV.agg (ce_integer_Int a))] (ti .i64 x1)), .p] [.op (.call [[0,1]] [(TV.agg (ce_integer_Int b))] (ti .i64 x3)), .op .p, .op .p], .reg [oo, oo, oo, oo], .br false, .reg [oo, oo, oo, oo], .br false, .reg [oo, oo, oo], .br true, .reg [oo, oo, oo, oo, .op (.call [[1], [1]] [(TV.c (T.sl 1 (b.Abs.map ce_u32))), (TV.c (T.sl 1 (a.Abs.map ce_u32)))] (ti .i64 x8)), oo]] _ hn (by kernel_rfl) (aC (integer_Sign_holds h2) <| aC (integer_Sign_holds h4) <| aC h5 <| aC h6 <| aC h7 <| aC (natural_Cmp_holds h9) <| aN)
      · skip
        obtain ⟨x8, h9, h⟩ := obind h
        have h := Option.some.inj h; subst h
        exact wk_ret (fuel := 112) [.reg [oo, oo, oo], .draw [.p, (.call [[0,1]] [(TV.agg (ce_integer_Int a))] (ti .i64 x1)), .p] [.op (.call [[0,1]] [(TV.agg (ce_integer_Int b))] (ti .i64 x3)), .op .p, .op .p], .reg [oo, oo, oo, oo], .br false, .reg [oo, oo, oo, oo], .br false, .reg [oo, oo, oo], .br false, .reg [oo, oo, oo, oo, .op (.call [[1], [1]] [(TV.c (T.sl 1 (a.Abs.map ce_u32))), (TV.c (T.sl 1 (b.Abs.map ce_u32)))] (ti .i64 x8)), oo]] _ hn (by kernel_rfl) (aC (integer_Sign_holds h2) <| aC (integer_Sign_holds h4) <| aC h5 <| aC h6 <| aC h7 <| aC (natural_Cmp_holds h9) <| aN)

theorem integer_Cmp_all : ∀ K : Nat, integer_Cmp_H K
  | 0, c, r, h => by rw [integer_Cmp_go] at h; cases h
  | K + 1, .c0 .., r, h => fun cx hn => integer_Cmp_c0 (integer_Cmp_all K) hn h

theorem integer_Cmp_holds {K : Nat} {a : integer_Int} {b : integer_Int} {r : Int} (h : integer_Cmp K a b = some r) : Holds prog 55 [(TV.agg (ce_integer_Int a)), (TV.agg (ce_integer_Int b))] (ti .i64 r) :=
  holds_wk [[0]] (by kernel_rfl) (by simp) fun cx hn => integer_Cmp_all K (.c0 a b) r h cx hn
end Go.Am.X
namespace Go.Am.X
open Go.Proofs.Try (prog)


inductive integer_Mul_Cut where
  | c0 (a : integer_Int) (b : integer_Int)

def integer_Mul_go : Nat → integer_Mul_Cut → Option integer_Int
  | 0, _ => none
  | K + 1, .c0 a b =>
    (natural_Mul K a.Abs b.Abs).bind fun x1 =>
    (integer_made K (!(a.Neg == b.Neg)) x1).bind fun x3 =>
    some x3

def integer_Mul (K : Nat) (a : integer_Int) (b : integer_Int) : Option integer_Int := integer_Mul_go K (.c0 a b)

noncomputable def integer_Mul_body : Code := bodyOf prog 74
noncomputable def integer_Mul_pos : integer_Mul_Cut → List Fr
  | .c0 .. => [.code integer_Mul_body]
def integer_Mul_st : integer_Mul_Cut → St
  | .c0 a b => St.init [(TV.agg (ce_integer_Int a)), (TV.agg (ce_integer_Int b))]

def integer_Mul_S (cx : Cx) (c : integer_Mul_Cut) (r : integer_Int) : Prop := Wk prog cx (EndsF prog 74 [[0,1]] (TV.agg (ce_integer_Int r))) (integer_Mul_pos c) .normal (integer_Mul_st c)
abbrev integer_Mul_H (K : Nat) : Prop := ∀ c r, integer_Mul_go K c = some r → ∀ cx : Cx, cx.n = 16 → integer_Mul_S cx c r

theorem integer_Mul_c0 {K} (_ : integer_Mul_H K) {cx} (hn : cx.n = 16) {a b} {r} (h : integer_Mul_go (K + 1) (.c0 a b) = some r) : integer_Mul_S cx (.c0 a b) r := by
  rw [integer_Mul_go] at h
  obtain ⟨x1, h2, h⟩ := obind h
  obtain ⟨x3, h4, h⟩ := obind h
  have h := Option.some.inj h; subst h
  exact wk_ret (fuel := 54) [.reg [oo, oo, oo], .draw [.p, .p, .p, .p, .p, .p, .p, .p, .p, (.call [[1], [1]] [(TV.c (T.sl 1 (a.Abs.map ce_u32))), (TV.c (T.sl 1 (b.Abs.map ce_u32)))] (tl 1 x1 ce_u32))] [.op (.call [[0], [1]] [(TV.c (T.bool (!(a.Neg == b.Neg)))), (tl 1 x1 ce_u32)] (TV.agg (ce_integer_Int x3))), .op .p]] _ hn (by kernel_rfl) (aC (natural_Mul_holds h2) <| aC (integer_made_holds h4) <| aN)

theorem integer_Mul_all : ∀ K : Nat, integer_Mul_H K
  | 0, c, r, h => by rw [integer_Mul_go] at h; cases h
  | K + 1, .c0 .., r, h => fun cx hn => integer_Mul_c0 (integer_Mul_all K) hn h

theorem integer_Mul_holds {K : Nat} {a : integer_Int} {b : integer_Int} {r : integer_Int} (h : integer_Mul K a b = some r) : Holds prog 74 [(TV.agg (ce_integer_Int a)), (TV.agg (ce_integer_Int b))] (TV.agg (ce_integer_Int r)) :=
  holds_wk [[0,1]] (by kernel_rfl) (by simp) fun cx hn => integer_Mul_all K (.c0 a b) r h cx hn
end Go.Am.X
namespace Go.Am.X
open Go.Proofs.Try (prog)


inductive integer_Abs_Cut where
  | c0 (a : integer_Int)

def integer_Abs_go : Nat → integer_Abs_Cut → Option integer_Int
  | 0, _ => none
  | K + 1, .c0 a =>
    (integer_From K false a.Abs).bind fun x1 =>
    some x1

def integer_Abs (K : Nat) (a : integer_Int) : Option integer_Int := integer_Abs_go K (.c0 a)

noncomputable def integer_Abs_body : Code := bodyOf prog 53
noncomputable def integer_Abs_pos : integer_Abs_Cut → List Fr
  | .c0 .. => [.code integer_Abs_body]
def integer_Abs_st : integer_Abs_Cut → St
  | .c0 a => St.init [(TV.agg (ce_integer_Int a))]

def integer_Abs_S (cx : Cx) (c : integer_Abs_Cut) (r : integer_Int) : Prop := Wk prog cx (EndsF prog 53 [[0,1]] (TV.agg (ce_integer_Int r))) (integer_Abs_pos c) .normal (integer_Abs_st c)
abbrev integer_Abs_H (K : Nat) : Prop := ∀ c r, integer_Abs_go K c = some r → ∀ cx : Cx, cx.n = 6 → integer_Abs_S cx c r

theorem integer_Abs_c0 {K} (_ : integer_Abs_H K) {cx} (hn : cx.n = 6) {a} {r} (h : integer_Abs_go (K + 1) (.c0 a) = some r) : integer_Abs_S cx (.c0 a) r := by
  rw [integer_Abs_go] at h
  obtain ⟨x1, h2, h⟩ := obind h
  have h := Option.some.inj h; subst h
  exact wk_ret (fuel := 54) [.reg [oo, oo], .reg [oo, oo, .op (.call [[0], [1]] [(TV.c (T.bool false)), (TV.c (T.sl 1 (a.Abs.map ce_u32)))] (TV.agg (ce_integer_Int x1))), oo]] _ hn (by kernel_rfl) (aC (integer_From_holds h2) <| aN)

theorem integer_Abs_all : ∀ K : Nat, integer_Abs_H K
  | 0, c, r, h => by rw [integer_Abs_go] at h; cases h
  | K + 1, .c0 .., r, h => fun cx hn => integer_Abs_c0 (integer_Abs_all K) hn h

theorem integer_Abs_holds {K : Nat} {a : integer_Int} {r : integer_Int} (h : integer_Abs K a = some r) : Holds prog 53 [(TV.agg (ce_integer_Int a))] (TV.agg (ce_integer_Int r)) :=
  holds_wk [[0,1]] (by kernel_rfl) (by simp) fun cx hn => integer_Abs_all K (.c0 a) r h cx hn
end Go.Am.X
namespace Go.Am.X
open Go.Proofs.Try (prog)


inductive integer_Same_Cut where
  | c0 (a : integer_Int) (b : integer_Int)

def integer_Same_go : Nat → integer_Same_Cut → Option Bool
  | 0, _ => none
  | K + 1, .c0 a b =>
    (integer_Cmp K a b).bind fun x1 =>
    some (decide (x1 = (0 : Int)))

def integer_Same (K : Nat) (a : integer_Int) (b : integer_Int) : Option Bool := integer_Same_go K (.c0 a b)

noncomputable def integer_Same_body : Code := bodyOf prog 98
noncomputable def integer_Same_pos : integer_Same_Cut → List Fr
  | .c0 .. => [.code integer_Same_body]
def integer_Same_st : integer_Same_Cut → St
  | .c0 a b => St.init [(TV.agg (ce_integer_Int a)), (TV.agg (ce_integer_Int b))]

def integer_Same_S (cx : Cx) (c : integer_Same_Cut) (r : Bool) : Prop := Wk prog cx (EndsF prog 98 [[0]] (TV.c (T.bool r))) (integer_Same_pos c) .normal (integer_Same_st c)
abbrev integer_Same_H (K : Nat) : Prop := ∀ c r, integer_Same_go K c = some r → ∀ cx : Cx, cx.n = 9 → integer_Same_S cx c r

theorem integer_Same_c0 {K} (_ : integer_Same_H K) {cx} (hn : cx.n = 9) {a b} {r} (h : integer_Same_go (K + 1) (.c0 a b) = some r) : integer_Same_S cx (.c0 a b) r := by
  rw [integer_Same_go] at h
  obtain ⟨x1, h2, h⟩ := obind h
  have h := Option.some.inj h; subst h
  exact wk_ret (fuel := 54) [.reg [oo, oo, oo], .reg [oo, oo, .op (.call [[0,1], [0,1]] [(TV.agg (ce_integer_Int a)), (TV.agg (ce_integer_Int b))] (ti .i64 x1)), oo, oo]] _ hn (by kernel_rfl) (aC (integer_Cmp_holds h2) <| aN)

theorem integer_Same_all : ∀ K : Nat, integer_Same_H K
  | 0, c, r, h => by rw [integer_Same_go] at h; cases h
  | K + 1, .c0 .., r, h => fun cx hn => integer_Same_c0 (integer_Same_all K) hn h

theorem integer_Same_holds {K : Nat} {a : integer_Int} {b : integer_Int} {r : Bool} (h : integer_Same K a b = some r) : Holds prog 98 [(TV.agg (ce_integer_Int a)), (TV.agg (ce_integer_Int b))] (TV.c (T.bool r)) :=
  holds_wk [[0]] (by kernel_rfl) (by simp) fun cx hn => integer_Same_all K (.c0 a b) r h cx hn
end Go.Am.X
namespace Go.Am.X
open Go.Proofs.Try (prog)


inductive integer_Neg_Cut where
  | c0 (a : integer_Int)

def integer_Neg_go : Nat → integer_Neg_Cut → Option integer_Int
  | 0, _ => none
  | K + 1, .c0 a =>
    (integer_From K (!a.Neg) a.Abs).bind fun x1 =>
    some x1

def integer_Neg (K : Nat) (a : integer_Int) : Option integer_Int := integer_Neg_go K (.c0 a)

noncomputable def integer_Neg_body : Code := bodyOf prog 127
noncomputable def integer_Neg_pos : integer_Neg_Cut → List Fr
  | .c0 .. => [.code integer_Neg_body]
def integer_Neg_st : integer_Neg_Cut → St
  | .c0 a => St.init [(TV.agg (ce_integer_Int a))]

def integer_Neg_S (cx : Cx) (c : integer_Neg_Cut) (r : integer_Int) : Prop := Wk prog cx (EndsF prog 127 [[0,1]] (TV.agg (ce_integer_Int r))) (integer_Neg_pos c) .normal (integer_Neg_st c)
abbrev integer_Neg_H (K : Nat) : Prop := ∀ c r, integer_Neg_go K c = some r → ∀ cx : Cx, cx.n = 9 → integer_Neg_S cx c r

theorem integer_Neg_c0 {K} (_ : integer_Neg_H K) {cx} (hn : cx.n = 9) {a} {r} (h : integer_Neg_go (K + 1) (.c0 a) = some r) : integer_Neg_S cx (.c0 a) r := by
  rw [integer_Neg_go] at h
  obtain ⟨x1, h2, h⟩ := obind h
  have h := Option.some.inj h; subst h
  exact wk_ret (fuel := 54) [.reg [oo, oo], .reg [oo, oo, oo, oo, oo, .op (.call [[0], [1]] [(TV.c (T.bool (!a.Neg))), (TV.c (T.sl 1 (a.Abs.map ce_u32)))] (TV.agg (ce_integer_Int x1))), oo]] _ hn (by kernel_rfl) (aC (integer_From_holds h2) <| aN)

theorem integer_Neg_all : ∀ K : Nat, integer_Neg_H K
  | 0, c, r, h => by rw [integer_Neg_go] at h; cases h
  | K + 1, .c0 .., r, h => fun cx hn => integer_Neg_c0 (integer_Neg_all K) hn h

theorem integer_Neg_holds {K : Nat} {a : integer_Int} {r : integer_Int} (h : integer_Neg K a = some r) : Holds prog 127 [(TV.agg (ce_integer_Int a))] (TV.agg (ce_integer_Int r)) :=
  holds_wk [[0,1]] (by kernel_rfl) (by simp) fun cx hn => integer_Neg_all K (.c0 a) r h cx hn
end Go.Am.X
namespace Go.Am.X
open Go.Proofs.Try (prog)


inductive integer_Normal_Cut where
  | c0 (a : integer_Int)

def integer_Normal_go : Nat → integer_Normal_Cut → Option integer_Int
  | 0, _ => none
  | K + 1, .c0 a =>
    (integer_From K a.Neg a.Abs).bind fun x1 =>
    some x1

def integer_Normal (K : Nat) (a : integer_Int) : Option integer_Int := integer_Normal_go K (.c0 a)

noncomputable def integer_Normal_body : Code := bodyOf prog 87
noncomputable def integer_Normal_pos : integer_Normal_Cut → List Fr
  | .c0 .. => [.code integer_Normal_body]
def integer_Normal_st : integer_Normal_Cut → St
  | .c0 a => St.init [(TV.agg (ce_integer_Int a))]

def integer_Normal_S (cx : Cx) (c : integer_Normal_Cut) (r : integer_Int) : Prop := Wk prog cx (EndsF prog 87 [[0,1]] (TV.agg (ce_integer_Int r))) (integer_Normal_pos c) .normal (integer_Normal_st c)
abbrev integer_Normal_H (K : Nat) : Prop := ∀ c r, integer_Normal_go K c = some r → ∀ cx : Cx, cx.n = 8 → integer_Normal_S cx c r

theorem integer_Normal_c0 {K} (_ : integer_Normal_H K) {cx} (hn : cx.n = 8) {a} {r} (h : integer_Normal_go (K + 1) (.c0 a) = some r) : integer_Normal_S cx (.c0 a) r := by
  rw [integer_Normal_go] at h
  obtain ⟨x1, h2, h⟩ := obind h
  have h := Option.some.inj h; subst h
  exact wk_ret (fuel := 54) [.reg [oo, oo], .reg [oo, oo, oo, oo, .op (.call [[0], [1]] [(TV.c (T.bool a.Neg)), (TV.c (T.sl 1 (a.Abs.map ce_u32)))] (TV.agg (ce_integer_Int x1))), oo]] _ hn (by kernel_rfl) (aC (integer_From_holds h2) <| aN)

theorem integer_Normal_all : ∀ K : Nat, integer_Normal_H K
  | 0, c, r, h => by rw [integer_Normal_go] at h; cases h
  | K + 1, .c0 .., r, h => fun cx hn => integer_Normal_c0 (integer_Normal_all K) hn h

theorem integer_Normal_holds {K : Nat} {a : integer_Int} {r : integer_Int} (h : integer_Normal K a = some r) : Holds prog 87 [(TV.agg (ce_integer_Int a))] (TV.agg (ce_integer_Int r)) :=
  holds_wk [[0,1]] (by kernel_rfl) (by simp) fun cx hn => integer_Normal_all K (.c0 a) r h cx hn
end Go.Am.X
namespace Go.Am.X
open Go.Proofs.Try (prog)


inductive division_zero_Cut where
  | c0 (a : integer_Int)

def division_zero_go : Nat → division_zero_Cut → Option Bool
  | 0, _ => none
  | K + 1, .c0 a =>
    (natural_IsZero K a.Abs).bind fun x1 =>
    some x1

def division_zero (K : Nat) (a : integer_Int) : Option Bool := division_zero_go K (.c0 a)

noncomputable def division_zero_body : Code := bodyOf prog 146
noncomputable def division_zero_pos : division_zero_Cut → List Fr
  | .c0 .. => [.code division_zero_body]
def division_zero_st : division_zero_Cut → St
  | .c0 a => St.init [(TV.agg (ce_integer_Int a))]

def division_zero_S (cx : Cx) (c : division_zero_Cut) (r : Bool) : Prop := Wk prog cx (EndsF prog 146 [[0]] (TV.c (T.bool r))) (division_zero_pos c) .normal (division_zero_st c)
abbrev division_zero_H (K : Nat) : Prop := ∀ c r, division_zero_go K c = some r → ∀ cx : Cx, cx.n = 6 → division_zero_S cx c r

theorem division_zero_c0 {K} (_ : division_zero_H K) {cx} (hn : cx.n = 6) {a} {r} (h : division_zero_go (K + 1) (.c0 a) = some r) : division_zero_S cx (.c0 a) r := by
  rw [division_zero_go] at h
  obtain ⟨x1, h2, h⟩ := obind h
  have h := Option.some.inj h; subst h
  exact wk_ret (fuel := 54) [.reg [oo, oo], .reg [oo, oo, .op (.call [[1]] [(TV.c (T.sl 1 (a.Abs.map ce_u32)))] (TV.c (T.bool x1))), oo]] _ hn (by kernel_rfl) (aC (natural_IsZero_holds h2) <| aN)

theorem division_zero_all : ∀ K : Nat, division_zero_H K
  | 0, c, r, h => by rw [division_zero_go] at h; cases h
  | K + 1, .c0 .., r, h => fun cx hn => division_zero_c0 (division_zero_all K) hn h

theorem division_zero_holds {K : Nat} {a : integer_Int} {r : Bool} (h : division_zero K a = some r) : Holds prog 146 [(TV.agg (ce_integer_Int a))] (TV.c (T.bool r)) :=
  holds_wk [[0]] (by kernel_rfl) (by simp) fun cx hn => division_zero_all K (.c0 a) r h cx hn
end Go.Am.X
namespace Go.Am.X
open Go.Proofs.Try (prog)


inductive cylinderlaw12_one_Cut where
  | c0 

def cylinderlaw12_one_go : Nat → cylinderlaw12_one_Cut → Option integer_Int
  | 0, _ => none
  | K + 1, .c0  =>
    (integer_Of K (1 : Int)).bind fun x1 =>
    some x1

def cylinderlaw12_one (K : Nat) : Option integer_Int := cylinderlaw12_one_go K .c0

noncomputable def cylinderlaw12_one_body : Code := bodyOf prog 109
noncomputable def cylinderlaw12_one_pos : cylinderlaw12_one_Cut → List Fr
  | .c0  => [.code cylinderlaw12_one_body]
def cylinderlaw12_one_st : cylinderlaw12_one_Cut → St
  | .c0  => St.init []

def cylinderlaw12_one_S (cx : Cx) (c : cylinderlaw12_one_Cut) (r : integer_Int) : Prop := Wk prog cx (EndsF prog 109 [[0,1]] (TV.agg (ce_integer_Int r))) (cylinderlaw12_one_pos c) .normal (cylinderlaw12_one_st c)
abbrev cylinderlaw12_one_H (K : Nat) : Prop := ∀ c r, cylinderlaw12_one_go K c = some r → ∀ cx : Cx, cx.n = 2 → cylinderlaw12_one_S cx c r

theorem cylinderlaw12_one_c0 {K} (_ : cylinderlaw12_one_H K) {cx} (hn : cx.n = 2)  {r} (h : cylinderlaw12_one_go (K + 1) .c0 = some r) : cylinderlaw12_one_S cx .c0 r := by
  rw [cylinderlaw12_one_go] at h
  obtain ⟨x1, h2, h⟩ := obind h
  have h := Option.some.inj h; subst h
  exact wk_ret (fuel := 54) [.reg [oo], .reg [.op (.call [[0]] [(TV.c (T.int .i64 (1 : Int)))] (TV.agg (ce_integer_Int x1))), oo]] _ hn (by kernel_rfl) (aC (integer_Of_holds h2) <| aN)

theorem cylinderlaw12_one_all : ∀ K : Nat, cylinderlaw12_one_H K
  | 0, c, r, h => by rw [cylinderlaw12_one_go] at h; cases h
  | K + 1, .c0, r, h => fun cx hn => cylinderlaw12_one_c0 (cylinderlaw12_one_all K) hn h

theorem cylinderlaw12_one_holds {K : Nat}  {r : integer_Int} (h : cylinderlaw12_one K  = some r) : Holds prog 109 [] (TV.agg (ce_integer_Int r)) :=
  holds_wk [[0,1]] (by kernel_rfl) (by simp) fun cx hn => cylinderlaw12_one_all K .c0 r h cx hn
end Go.Am.X
namespace Go.Am.X
open Go.Proofs.Try (prog)


inductive cylinderlaw12_power_Cut where
  | c0 (p : Int) (k : Int)
  | c1 (b4 : integer_Int) (x : integer_Int) (p : Int) (t7 : Int) (t8 : Int)

def cylinderlaw12_power_go : Nat → cylinderlaw12_power_Cut → Option integer_Int
  | 0, _ => none
  | K + 1, .c0 p k =>
    (cylinderlaw12_one K ).bind fun x1 =>
    cylinderlaw12_power_go K (.c1 (integer_Int.mk false []) x1 p k (0 : Int))
  | K + 1, .c1 b4 x p t7 t8 =>
    bif (decide (t8 < t7)) then
      (integer_Of K (IntKind.i64.wrap p)).bind fun x2 =>
      (integer_Mul K x x2).bind fun x4 =>
      cylinderlaw12_power_go K (.c1 b4 x4 p t7 (IntKind.i64.wrap (t8 + (1 : Int))))
    else
      some x

def cylinderlaw12_power (K : Nat) (p : Int) (k : Int) : Option integer_Int := cylinderlaw12_power_go K (.c0 p k)

noncomputable def cylinderlaw12_power_body : Code := bodyOf prog 56
noncomputable def cylinderlaw12_power_pos : cylinderlaw12_power_Cut → List Fr
  | .c0 .. => [.code cylinderlaw12_power_body]
  | .c1 .. => [.code (.loop (atC cylinderlaw12_power_body [1,1,0,1,0,0])), .blk 0, .code (atC cylinderlaw12_power_body [1,1,1])]
def cylinderlaw12_power_st : cylinderlaw12_power_Cut → St
  | .c0 p k => St.init [(ti .u32 p), (ti .i64 k)]
  | .c1 b4 x p t7 t8 => ⟨[(0, vi .u32 p), (4, .c (C.ptr 4 0)), (5, .c (C.ptr 5 0)), (7, vi .i64 t7), (8, vi .i64 t8)], [(4, .var ((ce_integer_Int b4).map C.t)), (5, .var ((ce_integer_Int x).map C.t))], []⟩

def cylinderlaw12_power_S (cx : Cx) (c : cylinderlaw12_power_Cut) (r : integer_Int) : Prop := Wk prog cx (EndsF prog 56 [[0,1]] (TV.agg (ce_integer_Int r))) (cylinderlaw12_power_pos c) .normal (cylinderlaw12_power_st c)
abbrev cylinderlaw12_power_H (K : Nat) : Prop := ∀ c r, cylinderlaw12_power_go K c = some r → ∀ cx : Cx, cx.n = 17 → cylinderlaw12_power_S cx c r

theorem cylinderlaw12_power_c0 {K} (ih : cylinderlaw12_power_H K) {cx} (hn : cx.n = 17) {p k} {r} (h : cylinderlaw12_power_go (K + 1) (.c0 p k) = some r) : cylinderlaw12_power_S cx (.c0 p k) r := by
  rw [cylinderlaw12_power_go] at h
  obtain ⟨x1, h2, h⟩ := obind h
  exact wk_go (fuel := 64) [.reg [oo], .reg [.op (.call [] [] (TV.agg (ce_integer_Int x1))), oo, oo], .reg [oo, oo], .pre [.tellB 4 [0,1], .keep [0,4,5,7,8] [4,5]]] _ hn (by kernel_rfl) (aC (cylinderlaw12_one_holds h2) <| aN) (ih _ _ h cx hn)

theorem cylinderlaw12_power_c1 {K} (ih : cylinderlaw12_power_H K) {cx} (hn : cx.n = 17) {b4 x p t7 t8} {r} (h : cylinderlaw12_power_go (K + 1) (.c1 b4 x p t7 t8) = some r) : cylinderlaw12_power_S cx (.c1 b4 x p t7 t8) r := by
  rw [cylinderlaw12_power_go] at h
  rcases bcases h with ⟨h1, h⟩ | ⟨h1, h⟩
  · skip
    obtain ⟨x2, h3, h⟩ := obind h
    obtain ⟨x4, h5, h⟩ := obind h
    exact wk_go (fuel := 82) [.go, .reg [oo], .br true, .draw [.p, .p, .p, (.call [[0]] [(TV.c (T.int .i64 (IntKind.i64.wrap p)))] (TV.agg (ce_integer_Int x2)))] [.op (.call [[0,1], [0,1]] [(TV.agg (ce_integer_Int x)), (TV.agg (ce_integer_Int x2))] (TV.agg (ce_integer_Int x4))), .op .p], .reg [oo, oo], .pre [.keep [0,4,5,7,8] [4,5]]] _ hn (by kernel_rfl) (aC h1 <| aC (integer_Of_holds h3) <| aC (integer_Mul_holds h5) <| aN) (ih _ _ h cx hn)
  · skip
    have h := Option.some.inj h; subst h
    exact wk_ret (fuel := 78) [.go, .reg [oo], .br false, .reg [oo, oo]] _ hn (by kernel_rfl) (aC h1 <| aN)

theorem cylinderlaw12_power_all : ∀ K : Nat, cylinderlaw12_power_H K
  | 0, c, r, h => by rw [cylinderlaw12_power_go] at h; cases h
  | K + 1, .c0 .., r, h => fun cx hn => cylinderlaw12_power_c0 (cylinderlaw12_power_all K) hn h
  | K + 1, .c1 .., r, h => fun cx hn => cylinderlaw12_power_c1 (cylinderlaw12_power_all K) hn h

theorem cylinderlaw12_power_holds {K : Nat} {p : Int} {k : Int} {r : integer_Int} (h : cylinderlaw12_power K p k = some r) : Holds prog 56 [(ti .u32 p), (ti .i64 k)] (TV.agg (ce_integer_Int r)) :=
  holds_wk [[0,1]] (by kernel_rfl) (by simp) fun cx hn => cylinderlaw12_power_all K (.c0 p k) r h cx hn
end Go.Am.X
namespace Go.Am.X

def ival (a : integer_Int) : Int := bif a.Neg then -val a.Abs else val a.Abs
def mkI (z : Int) : integer_Int := ⟨decide (z < 0), digs z.natAbs⟩

theorem ival_mkI (z : Int) : ival (mkI z) = z := by
  unfold ival mkI
  simp only [val_digs (Int.natCast_nonneg _)]
  by_cases h : z < 0
  · simp only [h, decide_true, cond_true]; omega
  · simp only [h, decide_false, cond_false]; omega
theorem mkI_dig (z : Int) : Dig (mkI z).Abs := dig_digs _
theorem mkI_pos {z : Int} (h : 0 ≤ z) : mkI z = ⟨false, digs z⟩ := by
  unfold mkI
  rw [show (z.natAbs : Int) = z by omega, decide_eq_false (by omega)]
theorem mkI_neg {z : Int} (h : z < 0) : mkI z = ⟨true, digs (-z)⟩ := by
  unfold mkI
  rw [show (z.natAbs : Int) = -z by omega, decide_eq_true h]
theorem mkI_inj {x y : Int} (h : mkI x = mkI y) : x = y := by rw [← ival_mkI x, ← ival_mkI y, h]
theorem mkI_len {z : Int} {n : Nat} (h1 : -(4294967296 ^ n) < z) (h2 : z < 4294967296 ^ n) : (mkI z).Abs.length ≤ n := digs_len_le (by omega)
theorem val_abs (a : integer_Int) (h : Dig a.Abs) : val a.Abs = (ival a).natAbs := by
  have := val_nonneg h
  unfold ival
  cases a.Neg <;> simp <;> omega

theorem cmpI_cases (x y : Int) : (x < y ∧ cmpI x y = -1) ∨ (x = y ∧ cmpI x y = 0) ∨ (y < x ∧ cmpI x y = 1) := by
  unfold cmpI
  split
  · omega
  · split <;> omega
theorem ipow_le {x y : Int} (h0 : 0 ≤ x) (h : x ≤ y) : ∀ n : Nat, x ^ n ≤ y ^ n
  | 0 => by simp
  | n + 1 => by
    rw [Int.pow_succ, Int.pow_succ]
    exact Int.mul_le_mul (ipow_le h0 h n) h h0 (Int.pow_nonneg (by omega))

theorem integer_made_ev (neg : Bool) {z : Int} (h : 0 ≤ z) : Ev (fun K => integer_made K neg (digs z)) (mkI (bif neg then -z else z)) := by
  refine ev_succ ?_
  simp only [integer_made, integer_made_go]
  have hn := digs_nil_iff h
  cases neg
  · refine ev_f rfl (ev_eq (ev_some _) ?_)
    rw [cond_false, mkI_pos h]
  · refine ev_t rfl (ev_eq (ev_some _) ?_)
    rw [cond_true]
    by_cases hz : z = 0
    · subst hz; rw [digs_zero, Int.neg_zero, mkI_pos (Int.le_refl 0), digs_zero]; rfl
    · rw [mkI_neg (by omega), Int.neg_neg]
      congr 1
      rw [decide_eq_true_iff]
      have : digs z ≠ [] := fun e => hz (hn.1 e)
      have := List.length_pos_iff.2 this
      omega

theorem integer_From_ev (neg : Bool) {a : List Int} (h : Dig a) (hs : a.length ≤ 34359738368) : Ev (fun K => integer_From K neg a) (mkI (bif neg then -val a else val a)) := by
  refine ev_succ ?_
  simp only [integer_From, integer_From_go]
  exact ev_bind (natural_Normal_ev h hs) (ev_bind (integer_made_ev neg (val_nonneg h)) (ev_some _))

theorem integer_Of_ev {n : Int} (h : -9223372036854775808 ≤ n ∧ n < 9223372036854775808) : Ev (fun K => integer_Of K n) (mkI n) := by
  refine ev_succ ?_
  simp only [integer_Of, integer_Of_go, w_u64]
  by_cases hn : n < 0
  · refine ev_t (by simpa using hn) ?_
    rw [show (0 - n % 18446744073709551616) % 18446744073709551616 = -n by omega]
    have := integer_made_ev true (z := -n) (by omega)
    rw [cond_true, Int.neg_neg] at this
    exact ev_bind (natural_Of_ev (by omega) (by omega)) (ev_bind this (ev_some _))
  · refine ev_f (by simpa using hn) ?_
    rw [Int.emod_eq_of_lt (by omega) (by omega)]
    exact ev_bind (natural_Of_ev (by omega) (by omega)) (ev_bind (integer_made_ev false (z := n) (by omega)) (ev_some _))

theorem integer_Abs_ev {a : integer_Int} (h : Dig a.Abs) (hs : a.Abs.length ≤ 34359738368) : Ev (fun K => integer_Abs K a) (mkI (ival a).natAbs) := by
  refine ev_succ ?_
  simp only [integer_Abs, integer_Abs_go]
  have := integer_From_ev false h hs
  rw [cond_false, val_abs a h] at this
  exact ev_bind this (ev_some _)
theorem integer_Neg_ev {a : integer_Int} (h : Dig a.Abs) (hs : a.Abs.length ≤ 34359738368) : Ev (fun K => integer_Neg K a) (mkI (-ival a)) := by
  refine ev_succ ?_
  simp only [integer_Neg, integer_Neg_go]
  have := integer_From_ev (!a.Neg) h hs
  refine ev_bind (ev_eq this ?_) (ev_some _)
  congr 1
  unfold ival
  cases a.Neg <;> simp
theorem integer_Normal_ev {a : integer_Int} (h : Dig a.Abs) (hs : a.Abs.length ≤ 34359738368) : Ev (fun K => integer_Normal K a) (mkI (ival a)) := by
  refine ev_succ ?_
  simp only [integer_Normal, integer_Normal_go]
  exact ev_bind (integer_From_ev a.Neg h hs) (ev_some _)

theorem integer_Mul_ev {a b : integer_Int} (ha : Dig a.Abs) (hb : Dig b.Abs) (hs : a.Abs.length + b.Abs.length ≤ 34359738368) : Ev (fun K => integer_Mul K a b) (mkI (ival a * ival b)) := by
  refine ev_succ ?_
  simp only [integer_Mul, integer_Mul_go]
  refine ev_bind (natural_Mul_ev ha hb hs) ?_
  refine ev_bind (ev_eq (integer_made_ev _ (Int.mul_nonneg (val_nonneg ha) (val_nonneg hb))) ?_) (ev_some _)
  congr 1
  unfold ival
  cases a.Neg <;> cases b.Neg <;> simp [Int.neg_mul, Int.mul_neg]

theorem integer_Sign_ev {a : integer_Int} (ha : Dig a.Abs) (hs : a.Abs.length < 4611686018427387904) : Ev (fun K => integer_Sign K a) (cmpI (ival a) 0) := by
  refine ev_succ ?_
  simp only [integer_Sign, integer_Sign_go]
  refine ev_bind (natural_IsZero_ev ha hs) ?_
  have := val_nonneg ha
  unfold ival cmpI
  by_cases h0 : val a.Abs = 0
  · refine ev_t (by simpa using h0) (ev_eq (ev_some _) ?_)
    cases a.Neg <;> simp [h0]
  · refine ev_f (by simpa using h0) ?_
    cases a.Neg
    · refine ev_f rfl (ev_eq (ev_some _) ?_)
      rw [cond_false, if_neg (by omega), if_pos (by omega)]
    · refine ev_t rfl (ev_eq (ev_some _) ?_)
      rw [cond_true, if_pos (by omega)]

theorem integer_Cmp_ev {a b : integer_Int} (ha : Dig a.Abs) (hb : Dig b.Abs) (hs : a.Abs.length < 4611686018427387904) (ht : b.Abs.length < 4611686018427387904) : Ev (fun K => integer_Cmp K a b) (cmpI (ival a) (ival b)) := by
  refine ev_succ ?_
  simp only [integer_Cmp, integer_Cmp_go]
  refine ev_bind (integer_Sign_ev ha hs) (ev_bind (integer_Sign_ev hb ht) ?_)
  have hva := val_nonneg ha
  have hvb := val_nonneg hb
  have va := val_abs a ha
  have vb := val_abs b hb
  have h1 := natural_Cmp_ev ha hb hs ht
  have h2 := natural_Cmp_ev hb ha ht hs
  have c1 := cmpI_cases (ival a) 0
  have c2 := cmpI_cases (ival b) 0
  have c3 := cmpI_cases (val a.Abs) (val b.Abs)
  have c4 := cmpI_cases (val b.Abs) (val a.Abs)
  have c5 := cmpI_cases (ival a) (ival b)
  refine ev_if (fun d => ev_eq (ev_some _) ?_) (fun d => ev_if (fun d2 => ev_eq (ev_some _) ?_) (fun d2 => ev_if (fun d3 => ev_bind h2 (ev_eq (ev_some _) ?_)) (fun d3 => ev_bind h1 (ev_eq (ev_some _) ?_))))
  · have := of_decide_eq_true d; omega
  · have := of_decide_eq_false d; have := of_decide_eq_true d2; omega
  · have := of_decide_eq_false d; have := of_decide_eq_false d2; have := of_decide_eq_true d3; omega
  · have := of_decide_eq_false d; have := of_decide_eq_false d2; have := of_decide_eq_false d3; omega

theorem integer_Same_ev {a b : integer_Int} (ha : Dig a.Abs) (hb : Dig b.Abs) (hs : a.Abs.length < 4611686018427387904) (ht : b.Abs.length < 4611686018427387904) : Ev (fun K => integer_Same K a b) (decide (ival a = ival b)) := by
  refine ev_succ ?_
  simp only [integer_Same, integer_Same_go]
  refine ev_bind (integer_Cmp_ev ha hb hs ht) (ev_eq (ev_some _) ?_)
  have c5 := cmpI_cases (ival a) (ival b)
  rw [decide_eq_decide]; omega

theorem division_zero_ev {a : integer_Int} (ha : Dig a.Abs) (hs : a.Abs.length < 4611686018427387904) : Ev (fun K => division_zero K a) (decide (ival a = 0)) := by
  refine ev_succ ?_
  simp only [division_zero, division_zero_go]
  refine ev_bind (natural_IsZero_ev ha hs) (ev_eq (ev_some _) ?_)
  have := val_abs a ha
  rw [decide_eq_decide]; omega

/- The law's own. -/
theorem cylinderlaw12_one_ev : Ev (fun K => cylinderlaw12_one K) (mkI 1) := by
  refine ev_succ ?_
  simp only [cylinderlaw12_one, cylinderlaw12_one_go]
  exact ev_bind (integer_Of_ev (by decide)) (ev_some _)

/-- A bound on a power's length. -/
theorem mkI_small {z : Int} {n : Nat} (h0 : 0 ≤ z) (h : z < 4294967296 ^ n) : (mkI z).Abs.length ≤ n := mkI_len (by have := bpow_pos n; omega) h

theorem cylinderlaw12_power_v1 {b4 : integer_Int} {p : Int} {k : Nat} (hp : 0 ≤ p ∧ p < 4294967296) (hk : k < 1000) : ∀ (m i : Nat), i + m = k → Ev (fun K => cylinderlaw12_power_go K (.c1 b4 (mkI (p ^ i)) p k i)) (mkI (p ^ k))
  | 0, i, hi => by
    refine ev_succ ?_
    simp only [cylinderlaw12_power_go]
    have : i = k := by omega
    subst this
    exact ev_f (by simp) (ev_some _)
  | m + 1, i, hi => by
    refine ev_succ ?_
    simp only [cylinderlaw12_power_go]
    refine ev_t (by simp; omega) ?_
    rw [w_i64 (x := p) (by omega), w_i64 (by omega), show (i : Int) + 1 = ((i + 1 : Nat) : Int) by omega]
    have hpp : p ^ i < 4294967296 ^ (i + 1) := by
      have h1 : p ^ i ≤ 4294967296 ^ i := ipow_le hp.1 (by omega) i
      have h2 := bpow_pos i
      rw [Int.pow_succ]; omega
    have := integer_Mul_ev (mkI_dig (p ^ i)) (mkI_dig p) (by
      have h1 := mkI_small (show 0 ≤ p ^ i from Int.pow_nonneg hp.1) hpp
      have h2 := mkI_small hp.1 (n := 1) (by omega)
      omega)
    rw [ival_mkI, ival_mkI, ← Int.pow_succ] at this
    exact ev_bind (integer_Of_ev (by omega)) (ev_bind this (cylinderlaw12_power_v1 hp hk m (i + 1) (by omega)))

theorem cylinderlaw12_power_ev {p : Int} {k : Nat} (hp : 0 ≤ p ∧ p < 4294967296) (hk : k < 1000) : Ev (fun K => cylinderlaw12_power K p k) (mkI (p ^ k)) := by
  refine ev_succ ?_
  simp only [cylinderlaw12_power, cylinderlaw12_power_go]
  have := cylinderlaw12_power_v1 (b4 := ⟨false, []⟩) hp hk k 0 (by omega)
  rw [Int.pow_zero] at this
  exact ev_bind cylinderlaw12_one_ev this
end Go.Am.X
namespace Go.Am.X
open Go.Proofs.Try (prog)

def natural_Add_1__at6 (K : Nat) (x : Int) (y : Int) (c0 : Int) : Option (Int × Int) :=
  (math_bits_Add32 K x y c0).bind fun x1 =>
  some (x1.1, x1.2)

theorem natural_Add_1__at6_holdsR {K : Nat} {x : Int} {y : Int} {c0 : Int} {r : (Int × Int)} (h : natural_Add_1__at6 K x y c0 = some r) : HoldsR prog 149 [vi .u32 x, vi .u32 y, .c (C.ptr 6 0)] [(6, .var [C.t (T.int .u32 c0)])] [(6, .var [C.t (T.int .u32 r.2)])] (vi .u32 r.1) := by
  refine holdsR_wk (n := 17) (by kernel_rfl) (by simp) fun cx hn H exs => ?_
  unfold natural_Add_1__at6 at h
  obtain ⟨x1, h2, h⟩ := obind h
  have h := Option.some.inj h; subst h
  exact wk_retR (fuel := 70) [.reg [oo], .reg [oo, oo, oo, .op (.call [[0], [0], [0]] [(ti .u32 x), (ti .u32 y), (ti .u32 c0)] (TV.tup [(false, [(T.int .u32 x1.1)]), (false, [(T.int .u32 x1.2)])])), oo, oo, oo, oo, oo], .reg [oo, oo], .reg [oo, oo]]
    _
    ((6, .var [C.t (T.int .u32 x1.2)]) :: (6, .var [C.t (T.int .u32 c0)]) :: H) hn (by kernel_rfl) (aC (math_bits_Add32_holds h2) <| aN) (fun k => (dup_look _ _ _ _ k))
end Go.Am.X
namespace Go.Am.X
open Go.Proofs.Try (prog)


inductive natural_Add_Cut where
  | c0 (a : (List Int)) (b : (List Int))
  | c1 (carry : Int) (r25 : (List Int)) (a : (List Int)) (b : (List Int)) (t27 : (List Int)) (t28 : Int) (t29 : Int)
  | c2 (carry : Int) (r25 : (List Int)) (a : (List Int)) (i : Int)

def natural_Add_go : Nat → natural_Add_Cut → Option (List Int)
  | 0, _ => none
  | K + 1, .c0 a b =>
    (natural_trim K a).bind fun x1 =>
    (natural_trim K b).bind fun x3 =>
    bif (decide ((x1.length : Int) < (x3.length : Int))) then
      gd (0 ≤ (IntKind.i64.wrap ((x3.length : Int) + (1 : Int))) ∧ (IntKind.i64.wrap ((x3.length : Int) + (1 : Int))) ≤ (IntKind.i64.wrap ((x3.length : Int) + (1 : Int))) ∧ (4 : Int) * (IntKind.i64.wrap ((x3.length : Int) + (1 : Int))) ≤ 140737488355328) <|
      natural_Add_go K (.c1 (0 : Int) (List.replicate (IntKind.i64.wrap ((x3.length : Int) + (1 : Int))).toNat ((0 : Int) : Int)) x3 x1 x1 (x1.length : Int) (0 : Int))
    else
      gd (0 ≤ (IntKind.i64.wrap ((x1.length : Int) + (1 : Int))) ∧ (IntKind.i64.wrap ((x1.length : Int) + (1 : Int))) ≤ (IntKind.i64.wrap ((x1.length : Int) + (1 : Int))) ∧ (4 : Int) * (IntKind.i64.wrap ((x1.length : Int) + (1 : Int))) ≤ 140737488355328) <|
      natural_Add_go K (.c1 (0 : Int) (List.replicate (IntKind.i64.wrap ((x1.length : Int) + (1 : Int))).toNat ((0 : Int) : Int)) x1 x3 x3 (x3.length : Int) (0 : Int))
  | K + 1, .c1 carry r25 a b t27 t28 t29 =>
    bif (decide (t29 < t28)) then
      (gi t27 t29).bind fun x2 =>
      (gi a t29).bind fun x4 =>
      (natural_Add_1__at6 K x4 x2 carry).bind fun x6 =>
      (gi r25 t29).bind fun _ =>
      natural_Add_go K (.c1 x6.2 (r25.set (t29.toNat) x6.1) a b t27 t28 (IntKind.i64.wrap (t29 + (1 : Int))))
    else
      natural_Add_go K (.c2 carry r25 a (b.length : Int))
  | K + 1, .c2 carry r25 a i =>
    bif (decide (i < (a.length : Int))) then
      (gi a i).bind fun x2 =>
      (natural_Add_1__at6 K x2 (0 : Int) carry).bind fun x4 =>
      (gi r25 i).bind fun _ =>
      natural_Add_go K (.c2 x4.2 (r25.set (i.toNat) x4.1) a (IntKind.i64.wrap (i + (1 : Int))))
    else
      (gi r25 (a.length : Int)).bind fun _ =>
      (natural_trim K (r25.set ((a.length : Int).toNat) carry)).bind fun x4 =>
      some x4

def natural_Add (K : Nat) (a : (List Int)) (b : (List Int)) : Option (List Int) := natural_Add_go K (.c0 a b)

noncomputable def natural_Add_body : Code := bodyOf prog 106
noncomputable def natural_Add_pos : natural_Add_Cut → List Fr
  | .c0 .. => [.code natural_Add_body]
  | .c1 .. => [.code (.loop (atC natural_Add_body [1,1,1,1,1,1,0,1,0,0])), .blk 0, .code (atC natural_Add_body [1,1,1,1,1,1,1])]
  | .c2 .. => [.code (.loop (atC natural_Add_body [1,1,1,1,1,1,1,0,1,0,0])), .blk 2, .code (atC natural_Add_body [1,1,1,1,1,1,1,1])]
def natural_Add_st : natural_Add_Cut → St
  | .c0 a b => St.init [(tl 1 a ce_u32), (tl 1 b ce_u32)]
  | .c1 carry r25 a b t27 t28 t29 => ⟨[(0, vl 1 a ce_u32), (1, vl 1 b ce_u32), (5, .c (C.row 25 0 r25.length)), (6, .c (C.ptr 6 0)), (7, .c (C.fn 149 [Cap.ptr 6 0])), (27, vl 1 t27 ce_u32), (28, vi .i64 t28), (29, vi .i64 t29)], [(6, .var [C.t (T.int .u32 carry)]), (25, .row 101 1 (r25.map ce_u32) 0)], []⟩
  | .c2 carry r25 a i => ⟨[(0, vl 1 a ce_u32), (5, .c (C.row 25 0 r25.length)), (6, .c (C.ptr 6 0)), (7, .c (C.fn 149 [Cap.ptr 6 0])), (10, vi .i64 i)], [(6, .var [C.t (T.int .u32 carry)]), (25, .row 101 1 (r25.map ce_u32) 0)], []⟩

def natural_Add_S (cx : Cx) (c : natural_Add_Cut) (r : (List Int)) : Prop := Wk prog cx (EndsF prog 106 [[1]] (tl 1 r ce_u32)) (natural_Add_pos c) .normal (natural_Add_st c)
abbrev natural_Add_H (K : Nat) : Prop := ∀ c r, natural_Add_go K c = some r → ∀ cx : Cx, cx.n = 69 → natural_Add_S cx c r

theorem natural_Add_c0 {K} (ih : natural_Add_H K) {cx} (hn : cx.n = 69) {a b} {r} (h : natural_Add_go (K + 1) (.c0 a b) = some r) : natural_Add_S cx (.c0 a b) r := by
  rw [natural_Add_go] at h
  obtain ⟨x1, h2, h⟩ := obind h
  obtain ⟨x3, h4, h⟩ := obind h
  rcases bcases h with ⟨h5, h⟩ | ⟨h5, h⟩
  · skip
    obtain ⟨h6, h⟩ := gd_some h
    exact wk_go (fuel := 110) [.reg [oo], .reg [oo, .op (.call [[1]] [(tl 1 a ce_u32)] (tl 1 x1 ce_u32)), oo, .op (.call [[1]] [(tl 1 b ce_u32)] (tl 1 x3 ce_u32)), oo, oo], .reg [oo, .op (.ln (x1.length : Int)), oo, .op (.ln (x3.length : Int)), oo], .br true, .reg [oo, oo, oo, oo], .reg [oo, .op (.ln (x3.length : Int)), oo, .op (.mk (ce_u32 (0 : Int)) ((List.replicate (IntKind.i64.wrap ((x3.length : Int) + (1 : Int))).toNat ((0 : Int) : Int)).map ce_u32)), oo], .reg [oo, oo], .reg [.op .clo, oo], .reg [oo, .op (.ln (x1.length : Int)), oo], .pre [.rl 5 0 (List.replicate (IntKind.i64.wrap ((x3.length : Int) + (1 : Int))).toNat ((0 : Int) : Int)).length, .keep [0,1,5,6,7,27,28,29] [6,25]]] _ hn (by kernel_rfl) (aC (natural_trim_holds h2) <| aC (natural_trim_holds h4) <| aC (ln_eq x1 ce_u32) <| aC (ln_eq x3 ce_u32) <| aC h5 <| aC (ln_eq x3 ce_u32) <| aC h6.1 <| aC h6.2.1 <| aC h6.2.2 <| aC (rep_map _ _ _ : List.replicate (IntKind.i64.wrap ((x3.length : Int) + (1 : Int))).toNat (ce_u32 (0 : Int)) = (List.replicate (IntKind.i64.wrap ((x3.length : Int) + (1 : Int))).toNat ((0 : Int) : Int)).map ce_u32) <| aC (ln_eq x1 ce_u32) <| aC r0 <| aC (by simp : (IntKind.i64.wrap ((x3.length : Int) + (1 : Int))).toNat = (List.replicate (IntKind.i64.wrap ((x3.length : Int) + (1 : Int))).toNat ((0 : Int) : Int)).length) <| aN) (ih _ _ h cx hn)
  · skip
    obtain ⟨h6, h⟩ := gd_some h
    exact wk_go (fuel := 106) [.reg [oo], .reg [oo, .op (.call [[1]] [(tl 1 a ce_u32)] (tl 1 x1 ce_u32)), oo, .op (.call [[1]] [(tl 1 b ce_u32)] (tl 1 x3 ce_u32)), oo, oo], .reg [oo, .op (.ln (x1.length : Int)), oo, .op (.ln (x3.length : Int)), oo], .br false, .reg [oo, .op (.ln (x1.length : Int)), oo, .op (.mk (ce_u32 (0 : Int)) ((List.replicate (IntKind.i64.wrap ((x1.length : Int) + (1 : Int))).toNat ((0 : Int) : Int)).map ce_u32)), oo], .reg [oo, oo], .reg [.op .clo, oo], .reg [oo, .op (.ln (x3.length : Int)), oo], .pre [.rl 5 0 (List.replicate (IntKind.i64.wrap ((x1.length : Int) + (1 : Int))).toNat ((0 : Int) : Int)).length, .keep [0,1,5,6,7,27,28,29] [6,25]]] _ hn (by kernel_rfl) (aC (natural_trim_holds h2) <| aC (natural_trim_holds h4) <| aC (ln_eq x1 ce_u32) <| aC (ln_eq x3 ce_u32) <| aC h5 <| aC (ln_eq x1 ce_u32) <| aC h6.1 <| aC h6.2.1 <| aC h6.2.2 <| aC (rep_map _ _ _ : List.replicate (IntKind.i64.wrap ((x1.length : Int) + (1 : Int))).toNat (ce_u32 (0 : Int)) = (List.replicate (IntKind.i64.wrap ((x1.length : Int) + (1 : Int))).toNat ((0 : Int) : Int)).map ce_u32) <| aC (ln_eq x3 ce_u32) <| aC r0 <| aC (by simp : (IntKind.i64.wrap ((x1.length : Int) + (1 : Int))).toNat = (List.replicate (IntKind.i64.wrap ((x1.length : Int) + (1 : Int))).toNat ((0 : Int) : Int)).length) <| aN) (ih _ _ h cx hn)

theorem natural_Add_c1 {K} (ih : natural_Add_H K) {cx} (hn : cx.n = 69) {carry r25 a b t27 t28 t29} {r} (h : natural_Add_go (K + 1) (.c1 carry r25 a b t27 t28 t29) = some r) : natural_Add_S cx (.c1 carry r25 a b t27 t28 t29) r := by
  rw [natural_Add_go] at h
  rcases bcases h with ⟨h1, h⟩ | ⟨h1, h⟩
  · skip
    obtain ⟨x2, h3, h⟩ := obind h
    obtain ⟨x4, h5, h⟩ := obind h
    obtain ⟨x6, h7, h⟩ := obind h
    obtain ⟨x8, h9, h⟩ := obind h
    exact wk_go (fuel := 90) [.go, .reg [oo], .br true, .reg [oo, .op (.ix (ce_u32 x2)), oo, oo, oo], .reg [oo, oo, oo, oo, oo, .op (.ix (ce_u32 x4)), oo, oo, .callR [6] [(6, .var [C.t (T.int .u32 x6.2)])] (vi .u32 x6.1), .op .ir, .op (.st (ce_u32 x8) ((r25.set (t29.toNat) x6.1).map ce_u32))], .reg [oo, oo], .pre [.rl 5 0 (r25.set (t29.toNat) x6.1).length, .keep [0,1,5,6,7,27,28,29] [6,25]]] _ hn (by kernel_rfl) (aC h1 <| aC (gi_nn h3) <| aC (gi_at ce_u32 h3) <| aC (gi_nn h5) <| aC (gi_at ce_u32 h5) <| aC (natural_Add_1__at6_holdsR h7) <| aC (gi_nn h9) <| aC (gi_lt2 h9 (by simp) : t29 < ((r25.length : Nat) : Int)) <| aC (gi_row ce_u32 h9 : (r25.map ce_u32)[(0 + t29.toNat)]? = some (ce_u32 x8)) <| aC (set_map _ _ x6.1 _ : (r25.map ce_u32).set (0 + t29.toNat) (splice (ce_u32 x8) 0 [(T.int .u32 x6.1)]) = (r25.set (t29.toNat) x6.1).map ce_u32) <| aC (Nat.zero_le _ : 0 ≤ (0 + t29.toNat)) <| aC r0 <| aC (by simp : r25.length = (r25.set (t29.toNat) x6.1).length) <| aN) (ih _ _ h cx hn)
  · skip
    exact wk_go (fuel := 80) [.go, .reg [oo], .br false, .reg [oo, .op (.ln (b.length : Int)), oo], .pre [.rl 5 0 r25.length, .keep [0,5,6,7,10] [6,25]]] _ hn (by kernel_rfl) (aC h1 <| aC (ln_eq b ce_u32) <| aC r0 <| aC (lq r25) <| aN) (ih _ _ h cx hn)

theorem natural_Add_c2 {K} (ih : natural_Add_H K) {cx} (hn : cx.n = 69) {carry r25 a i} {r} (h : natural_Add_go (K + 1) (.c2 carry r25 a i) = some r) : natural_Add_S cx (.c2 carry r25 a i) r := by
  rw [natural_Add_go] at h
  rcases bcases h with ⟨h1, h⟩ | ⟨h1, h⟩
  · skip
    obtain ⟨x2, h3, h⟩ := obind h
    obtain ⟨x4, h5, h⟩ := obind h
    obtain ⟨x6, h7, h⟩ := obind h
    exact wk_go (fuel := 82) [.go, .reg [oo, oo, .op (.ln (a.length : Int)), oo], .br true, .reg [oo, oo, oo, oo, oo, .op (.ix (ce_u32 x2)), oo, .callR [6] [(6, .var [C.t (T.int .u32 x4.2)])] (vi .u32 x4.1), .op .ir, .op (.st (ce_u32 x6) ((r25.set (i.toNat) x4.1).map ce_u32))], .reg [oo, oo, oo], .pre [.rl 5 0 (r25.set (i.toNat) x4.1).length, .keep [0,5,6,7,10] [6,25]]] _ hn (by kernel_rfl) (aC (ln_eq a ce_u32) <| aC h1 <| aC (gi_nn h3) <| aC (gi_at ce_u32 h3) <| aC (natural_Add_1__at6_holdsR h5) <| aC (gi_nn h7) <| aC (gi_lt2 h7 (by simp) : i < ((r25.length : Nat) : Int)) <| aC (gi_row ce_u32 h7 : (r25.map ce_u32)[(0 + i.toNat)]? = some (ce_u32 x6)) <| aC (set_map _ _ x4.1 _ : (r25.map ce_u32).set (0 + i.toNat) (splice (ce_u32 x6) 0 [(T.int .u32 x4.1)]) = (r25.set (i.toNat) x4.1).map ce_u32) <| aC (Nat.zero_le _ : 0 ≤ (0 + i.toNat)) <| aC r0 <| aC (by simp : r25.length = (r25.set (i.toNat) x4.1).length) <| aN) (ih _ _ h cx hn)
  · skip
    obtain ⟨x2, h3, h⟩ := obind h
    obtain ⟨x4, h5, h⟩ := obind h
    have h := Option.some.inj h; subst h
    exact wk_ret (fuel := 86) [.go, .reg [oo, oo, .op (.ln (a.length : Int)), oo], .br false, .reg [oo, oo, .op (.ln (a.length : Int)), oo, .op .ir, .op (.st (ce_u32 x2) ((r25.set ((a.length : Int).toNat) carry).map ce_u32))], .reg [oo, .snap 67 (max 0 (0 + r25.length)) ((r25.set ((a.length : Int).toNat) carry).map ce_u32), .op (.call [[1]] [(TV.c (T.sl 1 ((r25.set ((a.length : Int).toNat) carry).map ce_u32)))] (tl 1 x4 ce_u32)), oo]] _ hn (by kernel_rfl) (aC (ln_eq a ce_u32) <| aC h1 <| aC (ln_eq a ce_u32) <| aC (gi_nn h3) <| aC (gi_lt2 h3 (by simp) : (a.length : Int) < ((r25.length : Nat) : Int)) <| aC (gi_row ce_u32 h3 : (r25.map ce_u32)[(0 + (a.length : Int).toNat)]? = some (ce_u32 x2)) <| aC (set_map _ _ carry _ : (r25.map ce_u32).set (0 + (a.length : Int).toNat) (splice (ce_u32 x2) 0 [(T.int .u32 carry)]) = (r25.set ((a.length : Int).toNat) carry).map ce_u32) <| aC (Nat.zero_le _ : 0 ≤ (0 + (a.length : Int).toNat)) <| aC (sn_map _ _ _ (by simp) : (((r25.set ((a.length : Int).toNat) carry).map ce_u32).drop 0).take r25.length = (r25.set ((a.length : Int).toNat) carry).map ce_u32) <| aC (rfl : (max 0 (0 + r25.length)) = (max 0 (0 + r25.length))) <| aC (natural_trim_holds h5) <| aN)

theorem natural_Add_all : ∀ K : Nat, natural_Add_H K
  | 0, c, r, h => by rw [natural_Add_go] at h; cases h
  | K + 1, .c0 .., r, h => fun cx hn => natural_Add_c0 (natural_Add_all K) hn h
  | K + 1, .c1 .., r, h => fun cx hn => natural_Add_c1 (natural_Add_all K) hn h
  | K + 1, .c2 .., r, h => fun cx hn => natural_Add_c2 (natural_Add_all K) hn h

theorem natural_Add_holds {K : Nat} {a : (List Int)} {b : (List Int)} {r : (List Int)} (h : natural_Add K a b = some r) : Holds prog 106 [(tl 1 a ce_u32), (tl 1 b ce_u32)] (tl 1 r ce_u32) :=
  holds_wk [[1]] (by kernel_rfl) (by simp) fun cx hn => natural_Add_all K (.c0 a b) r h cx hn
end Go.Am.X
namespace Go.Am.X
open Go.Proofs.Try (prog)


inductive math_bits_Sub32_Cut where
  | c0 (x : Int) (y : Int) (borrow : Int)

def math_bits_Sub32_go : Nat → math_bits_Sub32_Cut → Option (Int × Int)
  | 0, _ => none
  | _ + 1, .c0 x y borrow =>
    some ((IntKind.u32.wrap ((IntKind.u32.wrap (x - y)) - borrow)), (shrOp .u32 (bits .or .u32 (bits .and .u32 (bits .xor .u32 (if IntKind.signed .u32 then -1 else IntKind.max .u32) x) y) (bits .and .u32 (bits .xor .u32 (if IntKind.signed .u32 then -1 else IntKind.max .u32) (bits .xor .u32 x y)) (IntKind.u32.wrap ((IntKind.u32.wrap (x - y)) - borrow)))) (31 : Int)))

def math_bits_Sub32 (K : Nat) (x : Int) (y : Int) (borrow : Int) : Option (Int × Int) := math_bits_Sub32_go K (.c0 x y borrow)

noncomputable def math_bits_Sub32_body : Code := bodyOf prog 151
noncomputable def math_bits_Sub32_pos : math_bits_Sub32_Cut → List Fr
  | .c0 .. => [.code math_bits_Sub32_body]
def math_bits_Sub32_st : math_bits_Sub32_Cut → St
  | .c0 x y borrow => St.init [(ti .u32 x), (ti .u32 y), (ti .u32 borrow)]

def math_bits_Sub32_S (cx : Cx) (c : math_bits_Sub32_Cut) (r : (Int × Int)) : Prop := Wk prog cx (EndsF prog 151 [[0], [0]] (TV.tup [(false, [(T.int .u32 r.1)]), (false, [(T.int .u32 r.2)])])) (math_bits_Sub32_pos c) .normal (math_bits_Sub32_st c)
abbrev math_bits_Sub32_H (K : Nat) : Prop := ∀ c r, math_bits_Sub32_go K c = some r → ∀ cx : Cx, cx.n = 25 → math_bits_Sub32_S cx c r

theorem math_bits_Sub32_c0 {K} (_ : math_bits_Sub32_H K) {cx} (hn : cx.n = 25) {x y borrow} {r} (h : math_bits_Sub32_go (K + 1) (.c0 x y borrow) = some r) : math_bits_Sub32_S cx (.c0 x y borrow) r := by
  rw [math_bits_Sub32_go] at h
  have h := Option.some.inj h; subst h
  exact wk_ret (fuel := 62) [.reg [oo, oo], .reg [oo, oo, oo, oo, oo, oo], .reg [oo, oo, oo, oo, oo, oo, oo, oo, oo, oo, oo, oo, oo]] _ hn (by kernel_rfl) aN

theorem math_bits_Sub32_all : ∀ K : Nat, math_bits_Sub32_H K
  | 0, c, r, h => by rw [math_bits_Sub32_go] at h; cases h
  | K + 1, .c0 .., r, h => fun cx hn => math_bits_Sub32_c0 (math_bits_Sub32_all K) hn h

theorem math_bits_Sub32_holds {K : Nat} {x : Int} {y : Int} {borrow : Int} {r : (Int × Int)} (h : math_bits_Sub32 K x y borrow = some r) : Holds prog 151 [(ti .u32 x), (ti .u32 y), (ti .u32 borrow)] (TV.tup [(false, [(T.int .u32 r.1)]), (false, [(T.int .u32 r.2)])]) :=
  holds_wk [[0], [0]] (by kernel_rfl) (by simp) fun cx hn => math_bits_Sub32_all K (.c0 x y borrow) r h cx hn
end Go.Am.X
namespace Go.Am.X
open Go.Proofs.Try (prog)


inductive natural_Sub_Cut where
  | c0 (a : (List Int)) (b : (List Int))
  | c1 (r21 : (List Int)) (b : (List Int)) (borrow : Int) (t22 : (List Int)) (t23 : Int) (t24 : Int)
  | c2 (r21 : (List Int)) (b : (List Int)) (borrow : Int) (t22 : (List Int)) (t23 : Int) (t24 : Int)

def natural_Sub_go : Nat → natural_Sub_Cut → Option ((List Int) × Bool)
  | 0, _ => none
  | K + 1, .c0 a b =>
    (natural_Cmp K a b).bind fun x1 =>
    bif (decide (x1 < (0 : Int))) then
      some ([], false)
    else
      (natural_trim K a).bind fun x4 =>
      (natural_trim K b).bind fun x6 =>
      gd (0 ≤ (x4.length : Int) ∧ (x4.length : Int) ≤ (x4.length : Int) ∧ (4 : Int) * (x4.length : Int) ≤ 140737488355328) <|
      natural_Sub_go K (.c1 (List.replicate (x4.length : Int).toNat ((0 : Int) : Int)) x6 (0 : Int) x4 (x4.length : Int) (0 : Int))
  | K + 1, .c1 r21 b borrow t22 t23 t24 =>
    bif (decide (t24 < t23)) then
      (gi t22 t24).bind fun x2 =>
      bif (decide (t24 < (b.length : Int))) then
        (gi b t24).bind fun x5 =>
        (math_bits_Sub32 K x2 x5 borrow).bind fun x7 =>
        (gi r21 t24).bind fun _ =>
        natural_Sub_go K (.c2 (r21.set (t24.toNat) x7.1) b x7.2 t22 t23 t24)
      else
        (math_bits_Sub32 K x2 (0 : Int) borrow).bind fun x5 =>
        (gi r21 t24).bind fun _ =>
        natural_Sub_go K (.c2 (r21.set (t24.toNat) x5.1) b x5.2 t22 t23 t24)
    else
      (natural_trim K r21).bind fun x2 =>
      some (x2, true)
  | K + 1, .c2 r21 b borrow t22 t23 t24 =>
    natural_Sub_go K (.c1 r21 b borrow t22 t23 (IntKind.i64.wrap (t24 + (1 : Int))))

def natural_Sub (K : Nat) (a : (List Int)) (b : (List Int)) : Option ((List Int) × Bool) := natural_Sub_go K (.c0 a b)

noncomputable def natural_Sub_body : Code := bodyOf prog 107
noncomputable def natural_Sub_pos : natural_Sub_Cut → List Fr
  | .c0 .. => [.code natural_Sub_body]
  | .c1 .. => [.code (.loop (atC natural_Sub_body [1,1,1,1,1,0,1,0,0])), .blk 0, .code (atC natural_Sub_body [1,1,1,1,1,1])]
  | .c2 .. => [.code (atC natural_Sub_body [1,1,1,1,1,0,1,0,0,1,1,1]), .lp (atC natural_Sub_body [1,1,1,1,1,0,1,0,0]), .blk 0, .code (atC natural_Sub_body [1,1,1,1,1,1])]
def natural_Sub_st : natural_Sub_Cut → St
  | .c0 a b => St.init [(tl 1 a ce_u32), (tl 1 b ce_u32)]
  | .c1 r21 b borrow t22 t23 t24 => ⟨[(1, vl 1 b ce_u32), (6, .c (C.row 21 0 r21.length)), (7, vi .u32 borrow), (22, vl 1 t22 ce_u32), (23, vi .i64 t23), (24, vi .i64 t24)], [(21, .row 101 1 (r21.map ce_u32) 0)], []⟩
  | .c2 r21 b borrow t22 t23 t24 => ⟨[(1, vl 1 b ce_u32), (6, .c (C.row 21 0 r21.length)), (7, vi .u32 borrow), (22, vl 1 t22 ce_u32), (23, vi .i64 t23), (24, vi .i64 t24)], [(21, .row 101 1 (r21.map ce_u32) 0)], []⟩

def natural_Sub_S (cx : Cx) (c : natural_Sub_Cut) (r : ((List Int) × Bool)) : Prop := Wk prog cx (EndsF prog 107 [[1], [0]] (TV.tup [(false, [(T.sl 1 (r.1.map ce_u32))]), (false, [(T.bool r.2)])])) (natural_Sub_pos c) .normal (natural_Sub_st c)
abbrev natural_Sub_H (K : Nat) : Prop := ∀ c r, natural_Sub_go K c = some r → ∀ cx : Cx, cx.n = 50 → natural_Sub_S cx c r

theorem natural_Sub_c0 {K} (ih : natural_Sub_H K) {cx} (hn : cx.n = 50) {a b} {r} (h : natural_Sub_go (K + 1) (.c0 a b) = some r) : natural_Sub_S cx (.c0 a b) r := by
  rw [natural_Sub_go] at h
  obtain ⟨x1, h2, h⟩ := obind h
  rcases bcases h with ⟨h3, h⟩ | ⟨h3, h⟩
  · skip
    have h := Option.some.inj h; subst h
    exact wk_ret (fuel := 72) [.reg [oo, oo], .reg [oo, oo, .op (.call [[1], [1]] [(tl 1 a ce_u32), (tl 1 b ce_u32)] (ti .i64 x1)), oo], .br true, .reg [oo, oo]] _ hn (by kernel_rfl) (aC (natural_Cmp_holds h2) <| aC h3 <| aN)
  · skip
    obtain ⟨x4, h5, h⟩ := obind h
    obtain ⟨x6, h7, h⟩ := obind h
    obtain ⟨h8, h⟩ := gd_some h
    exact wk_go (fuel := 98) [.reg [oo, oo], .reg [oo, oo, .op (.call [[1], [1]] [(tl 1 a ce_u32), (tl 1 b ce_u32)] (ti .i64 x1)), oo], .br false, .reg [oo, .op (.call [[1]] [(tl 1 a ce_u32)] (tl 1 x4 ce_u32)), oo, .op (.call [[1]] [(tl 1 b ce_u32)] (tl 1 x6 ce_u32)), oo, oo], .reg [oo, .op (.ln (x4.length : Int)), .op (.mk (ce_u32 (0 : Int)) ((List.replicate (x4.length : Int).toNat ((0 : Int) : Int)).map ce_u32)), oo], .reg [oo], .reg [oo, .op (.ln (x4.length : Int)), oo], .pre [.rl 6 0 (List.replicate (x4.length : Int).toNat ((0 : Int) : Int)).length, .keep [1,6,7,22,23,24] [21]]] _ hn (by kernel_rfl) (aC (natural_Cmp_holds h2) <| aC h3 <| aC (natural_trim_holds h5) <| aC (natural_trim_holds h7) <| aC (ln_eq x4 ce_u32) <| aC h8.1 <| aC h8.2.1 <| aC h8.2.2 <| aC (rep_map _ _ _ : List.replicate (x4.length : Int).toNat (ce_u32 (0 : Int)) = (List.replicate (x4.length : Int).toNat ((0 : Int) : Int)).map ce_u32) <| aC (ln_eq x4 ce_u32) <| aC r0 <| aC (by simp : (x4.length : Int).toNat = (List.replicate (x4.length : Int).toNat ((0 : Int) : Int)).length) <| aN) (ih _ _ h cx hn)

theorem natural_Sub_c1 {K} (ih : natural_Sub_H K) {cx} (hn : cx.n = 50) {r21 b borrow t22 t23 t24} {r} (h : natural_Sub_go (K + 1) (.c1 r21 b borrow t22 t23 t24) = some r) : natural_Sub_S cx (.c1 r21 b borrow t22 t23 t24) r := by
  rw [natural_Sub_go] at h
  rcases bcases h with ⟨h1, h⟩ | ⟨h1, h⟩
  · skip
    obtain ⟨x2, h3, h⟩ := obind h
    rcases bcases h with ⟨h4, h⟩ | ⟨h4, h⟩
    · skip
      obtain ⟨x5, h6, h⟩ := obind h
      obtain ⟨x7, h8, h⟩ := obind h
      obtain ⟨x9, h10, h⟩ := obind h
      exact wk_go (fuel := 112) [.go, .reg [oo], .br true, .reg [oo, .op (.ix (ce_u32 x2)), oo, oo, oo], .reg [oo], .reg [oo, oo, .op (.ln (b.length : Int)), oo], .br true, .reg [oo, oo, .op (.ix (ce_u32 x5)), oo, oo], .reg [oo, oo, oo, oo, oo, .op (.call [[0], [0], [0]] [(ti .u32 x2), (ti .u32 x5), (ti .u32 borrow)] (TV.tup [(false, [(T.int .u32 x7.1)]), (false, [(T.int .u32 x7.2)])])), oo, oo, oo, .op .ir, .op (.st (ce_u32 x9) ((r21.set (t24.toNat) x7.1).map ce_u32)), oo], .pre [.rl 6 0 (r21.set (t24.toNat) x7.1).length, .keep [1,6,7,22,23,24] [21]]] _ hn (by kernel_rfl) (aC h1 <| aC (gi_nn h3) <| aC (gi_at ce_u32 h3) <| aC (ln_eq b ce_u32) <| aC h4 <| aC (gi_nn h6) <| aC (gi_at ce_u32 h6) <| aC (math_bits_Sub32_holds h8) <| aC (gi_nn h10) <| aC (gi_lt2 h10 (by simp) : t24 < ((r21.length : Nat) : Int)) <| aC (gi_row ce_u32 h10 : (r21.map ce_u32)[(0 + t24.toNat)]? = some (ce_u32 x9)) <| aC (set_map _ _ x7.1 _ : (r21.map ce_u32).set (0 + t24.toNat) (splice (ce_u32 x9) 0 [(T.int .u32 x7.1)]) = (r21.set (t24.toNat) x7.1).map ce_u32) <| aC (Nat.zero_le _ : 0 ≤ (0 + t24.toNat)) <| aC r0 <| aC (by simp : r21.length = (r21.set (t24.toNat) x7.1).length) <| aN) (ih _ _ h cx hn)
    · skip
      obtain ⟨x5, h6, h⟩ := obind h
      obtain ⟨x7, h8, h⟩ := obind h
      exact wk_go (fuel := 108) [.go, .reg [oo], .br true, .reg [oo, .op (.ix (ce_u32 x2)), oo, oo, oo], .reg [oo], .reg [oo, oo, .op (.ln (b.length : Int)), oo], .br false, .reg [oo, oo, oo, oo, oo, .op (.call [[0], [0], [0]] [(ti .u32 x2), (TV.c (T.int .u32 (0 : Int))), (ti .u32 borrow)] (TV.tup [(false, [(T.int .u32 x5.1)]), (false, [(T.int .u32 x5.2)])])), oo, oo, oo, .op .ir, .op (.st (ce_u32 x7) ((r21.set (t24.toNat) x5.1).map ce_u32)), oo], .pre [.rl 6 0 (r21.set (t24.toNat) x5.1).length, .keep [1,6,7,22,23,24] [21]]] _ hn (by kernel_rfl) (aC h1 <| aC (gi_nn h3) <| aC (gi_at ce_u32 h3) <| aC (ln_eq b ce_u32) <| aC h4 <| aC (math_bits_Sub32_holds h6) <| aC (gi_nn h8) <| aC (gi_lt2 h8 (by simp) : t24 < ((r21.length : Nat) : Int)) <| aC (gi_row ce_u32 h8 : (r21.map ce_u32)[(0 + t24.toNat)]? = some (ce_u32 x7)) <| aC (set_map _ _ x5.1 _ : (r21.map ce_u32).set (0 + t24.toNat) (splice (ce_u32 x7) 0 [(T.int .u32 x5.1)]) = (r21.set (t24.toNat) x5.1).map ce_u32) <| aC (Nat.zero_le _ : 0 ≤ (0 + t24.toNat)) <| aC r0 <| aC (by simp : r21.length = (r21.set (t24.toNat) x5.1).length) <| aN) (ih _ _ h cx hn)
  · skip
    obtain ⟨x2, h3, h⟩ := obind h
    have h := Option.some.inj h; subst h
    exact wk_ret (fuel := 78) [.go, .reg [oo], .br false, .reg [oo, .snap 48 (max 0 (0 + r21.length)) (r21.map ce_u32), .op (.call [[1]] [(tl 1 r21 ce_u32)] (tl 1 x2 ce_u32)), oo, oo]] _ hn (by kernel_rfl) (aC h1 <| aC (sn_map _ _ _ (by simp) : ((r21.map ce_u32).drop 0).take r21.length = r21.map ce_u32) <| aC (rfl : (max 0 (0 + r21.length)) = (max 0 (0 + r21.length))) <| aC (natural_trim_holds h3) <| aN)

theorem natural_Sub_c2 {K} (ih : natural_Sub_H K) {cx} (hn : cx.n = 50) {r21 b borrow t22 t23 t24} {r} (h : natural_Sub_go (K + 1) (.c2 r21 b borrow t22 t23 t24) = some r) : natural_Sub_S cx (.c2 r21 b borrow t22 t23 t24) r := by
  rw [natural_Sub_go] at h
  exact wk_go (fuel := 44) [.reg [oo, oo], .pre [.rl 6 0 r21.length, .keep [1,6,7,22,23,24] [21]]] _ hn (by kernel_rfl) (aC r0 <| aC (lq r21) <| aN) (ih _ _ h cx hn)

theorem natural_Sub_all : ∀ K : Nat, natural_Sub_H K
  | 0, c, r, h => by rw [natural_Sub_go] at h; cases h
  | K + 1, .c0 .., r, h => fun cx hn => natural_Sub_c0 (natural_Sub_all K) hn h
  | K + 1, .c1 .., r, h => fun cx hn => natural_Sub_c1 (natural_Sub_all K) hn h
  | K + 1, .c2 .., r, h => fun cx hn => natural_Sub_c2 (natural_Sub_all K) hn h

theorem natural_Sub_holds {K : Nat} {a : (List Int)} {b : (List Int)} {r : ((List Int) × Bool)} (h : natural_Sub K a b = some r) : Holds prog 107 [(tl 1 a ce_u32), (tl 1 b ce_u32)] (TV.tup [(false, [(T.sl 1 (r.1.map ce_u32))]), (false, [(T.bool r.2)])]) :=
  holds_wk [[1], [0]] (by kernel_rfl) (by simp) fun cx hn => natural_Sub_all K (.c0 a b) r h cx hn
end Go.Am.X
namespace Go.Am.X
open Go.Proofs.Try (prog)


inductive natural_Shl_Cut where
  | c0 (a : (List Int)) (n : Int)
  | c1 (r28 : (List Int)) (shift : Int) (low : Int) (i : Int)

def natural_Shl_go : Nat → natural_Shl_Cut → Option (List Int)
  | 0, _ => none
  | K + 1, .c0 a n =>
    (natural_trim K a).bind fun x1 =>
    bif (decide ((x1.length : Int) = (0 : Int))) then
      some []
    else
      gd (0 ≤ (IntKind.i64.wrap ((IntKind.i64.wrap ((IntKind.i64.wrap (Int.tdiv (min (max n (0 : Int)) (16777216 : Int)) (32 : Int))) + (x1.length : Int))) + (1 : Int))) ∧ (IntKind.i64.wrap ((IntKind.i64.wrap ((IntKind.i64.wrap (Int.tdiv (min (max n (0 : Int)) (16777216 : Int)) (32 : Int))) + (x1.length : Int))) + (1 : Int))) ≤ (IntKind.i64.wrap ((IntKind.i64.wrap ((IntKind.i64.wrap (Int.tdiv (min (max n (0 : Int)) (16777216 : Int)) (32 : Int))) + (x1.length : Int))) + (1 : Int))) ∧ (4 : Int) * (IntKind.i64.wrap ((IntKind.i64.wrap ((IntKind.i64.wrap (Int.tdiv (min (max n (0 : Int)) (16777216 : Int)) (32 : Int))) + (x1.length : Int))) + (1 : Int))) ≤ 140737488355328) <|
      gd (0 ≤ (IntKind.i64.wrap (Int.tdiv (min (max n (0 : Int)) (16777216 : Int)) (32 : Int))) ∧ (IntKind.i64.wrap (Int.tdiv (min (max n (0 : Int)) (16777216 : Int)) (32 : Int))).toNat ≤ (IntKind.i64.wrap ((IntKind.i64.wrap ((IntKind.i64.wrap (Int.tdiv (min (max n (0 : Int)) (16777216 : Int)) (32 : Int))) + (x1.length : Int))) + (1 : Int))).toNat ∧ (IntKind.i64.wrap ((IntKind.i64.wrap ((IntKind.i64.wrap (Int.tdiv (min (max n (0 : Int)) (16777216 : Int)) (32 : Int))) + (x1.length : Int))) + (1 : Int))).toNat ≤ (IntKind.i64.wrap ((IntKind.i64.wrap ((IntKind.i64.wrap (Int.tdiv (min (max n (0 : Int)) (16777216 : Int)) (32 : Int))) + (x1.length : Int))) + (1 : Int))).toNat ∧ ((IntKind.i64.wrap (Int.tdiv (min (max n (0 : Int)) (16777216 : Int)) (32 : Int))).toNat = 0 ∨ (IntKind.i64.wrap (Int.tdiv (min (max n (0 : Int)) (16777216 : Int)) (32 : Int))).toNat < (IntKind.i64.wrap ((IntKind.i64.wrap ((IntKind.i64.wrap (Int.tdiv (min (max n (0 : Int)) (16777216 : Int)) (32 : Int))) + (x1.length : Int))) + (1 : Int))).toNat)) <|
      gd ((0 + (IntKind.i64.wrap (Int.tdiv (min (max n (0 : Int)) (16777216 : Int)) (32 : Int))).toNat) + ((IntKind.i64.wrap ((IntKind.i64.wrap ((IntKind.i64.wrap (Int.tdiv (min (max n (0 : Int)) (16777216 : Int)) (32 : Int))) + (x1.length : Int))) + (1 : Int))).toNat - (IntKind.i64.wrap (Int.tdiv (min (max n (0 : Int)) (16777216 : Int)) (32 : Int))).toNat) ≤ (List.replicate (IntKind.i64.wrap ((IntKind.i64.wrap ((IntKind.i64.wrap (Int.tdiv (min (max n (0 : Int)) (16777216 : Int)) (32 : Int))) + (x1.length : Int))) + (1 : Int))).toNat ((0 : Int) : Int)).length) <|
      bif (decide ((0 : Int) < (Int.tmod (min (max n (0 : Int)) (16777216 : Int)) (32 : Int)))) then
        natural_Shl_go K (.c1 (copied (List.replicate (IntKind.i64.wrap ((IntKind.i64.wrap ((IntKind.i64.wrap (Int.tdiv (min (max n (0 : Int)) (16777216 : Int)) (32 : Int))) + (x1.length : Int))) + (1 : Int))).toNat ((0 : Int) : Int)) (0 + (IntKind.i64.wrap (Int.tdiv (min (max n (0 : Int)) (16777216 : Int)) (32 : Int))).toNat) ((IntKind.i64.wrap ((IntKind.i64.wrap ((IntKind.i64.wrap (Int.tdiv (min (max n (0 : Int)) (16777216 : Int)) (32 : Int))) + (x1.length : Int))) + (1 : Int))).toNat - (IntKind.i64.wrap (Int.tdiv (min (max n (0 : Int)) (16777216 : Int)) (32 : Int))).toNat) x1) (Int.tmod (min (max n (0 : Int)) (16777216 : Int)) (32 : Int)) (0 : Int) (IntKind.i64.wrap (Int.tdiv (min (max n (0 : Int)) (16777216 : Int)) (32 : Int))))
      else
        (natural_trim K (copied (List.replicate (IntKind.i64.wrap ((IntKind.i64.wrap ((IntKind.i64.wrap (Int.tdiv (min (max n (0 : Int)) (16777216 : Int)) (32 : Int))) + (x1.length : Int))) + (1 : Int))).toNat ((0 : Int) : Int)) (0 + (IntKind.i64.wrap (Int.tdiv (min (max n (0 : Int)) (16777216 : Int)) (32 : Int))).toNat) ((IntKind.i64.wrap ((IntKind.i64.wrap ((IntKind.i64.wrap (Int.tdiv (min (max n (0 : Int)) (16777216 : Int)) (32 : Int))) + (x1.length : Int))) + (1 : Int))).toNat - (IntKind.i64.wrap (Int.tdiv (min (max n (0 : Int)) (16777216 : Int)) (32 : Int))).toNat) x1)).bind fun x8 =>
        some x8
  | K + 1, .c1 r28 shift low i =>
    bif (decide (i < ((r28.length : Nat) : Int))) then
      (gi r28 i).bind fun x2 =>
      gd (0 ≤ shift) <|
      (gi r28 i).bind fun _ =>
      gd (0 ≤ (IntKind.i64.wrap ((32 : Int) - shift))) <|
      natural_Shl_go K (.c1 (r28.set (i.toNat) (bits .or .u32 (shlOp .u32 x2 shift) low)) shift (shrOp .u32 x2 (IntKind.i64.wrap ((32 : Int) - shift))) (IntKind.i64.wrap (i + (1 : Int))))
    else
      (natural_trim K r28).bind fun x2 =>
      some x2

def natural_Shl (K : Nat) (a : (List Int)) (n : Int) : Option (List Int) := natural_Shl_go K (.c0 a n)

noncomputable def natural_Shl_body : Code := bodyOf prog 142
noncomputable def natural_Shl_pos : natural_Shl_Cut → List Fr
  | .c0 .. => [.code natural_Shl_body]
  | .c1 .. => [.code (.loop (atC natural_Shl_body [1,1,1,1,1,1,1,0,1,0,1,1,0,0])), .blk 0, .code (atC natural_Shl_body [1,1,1,1,1,1,1,1])]
def natural_Shl_st : natural_Shl_Cut → St
  | .c0 a n => St.init [(tl 1 a ce_u32), (ti .i64 n)]
  | .c1 r28 shift low i => ⟨[(6, vi .i64 shift), (7, .c (C.row 28 0 r28.length)), (8, vi .u32 low), (9, vi .i64 i)], [(28, .row 101 1 (r28.map ce_u32) 0)], []⟩

def natural_Shl_S (cx : Cx) (c : natural_Shl_Cut) (r : (List Int)) : Prop := Wk prog cx (EndsF prog 142 [[1]] (tl 1 r ce_u32)) (natural_Shl_pos c) .normal (natural_Shl_st c)
abbrev natural_Shl_H (K : Nat) : Prop := ∀ c r, natural_Shl_go K c = some r → ∀ cx : Cx, cx.n = 61 → natural_Shl_S cx c r

theorem natural_Shl_c0 {K} (ih : natural_Shl_H K) {cx} (hn : cx.n = 61) {a n} {r} (h : natural_Shl_go (K + 1) (.c0 a n) = some r) : natural_Shl_S cx (.c0 a n) r := by
  rw [natural_Shl_go] at h
  obtain ⟨x1, h2, h⟩ := obind h
  rcases bcases h with ⟨h3, h⟩ | ⟨h3, h⟩
  · skip
    have h := Option.some.inj h; subst h
    exact wk_ret (fuel := 80) [.reg [oo], .reg [oo, .op (.call [[1]] [(tl 1 a ce_u32)] (tl 1 x1 ce_u32)), oo], .reg [oo, .op (.ln (x1.length : Int)), oo], .br true, .reg [oo]] _ hn (by kernel_rfl) (aC (natural_trim_holds h2) <| aC (ln_eq x1 ce_u32) <| aC h3 <| aN)
  · skip
    obtain ⟨h4, h⟩ := gd_some h
    obtain ⟨h5, h⟩ := gd_some h
    obtain ⟨h6, h⟩ := gd_some h
    rcases bcases h with ⟨h7, h⟩ | ⟨h7, h⟩
    · skip
      exact wk_go (fuel := 136) [.reg [oo], .reg [oo, .op (.call [[1]] [(tl 1 a ce_u32)] (tl 1 x1 ce_u32)), oo], .reg [oo, .op (.ln (x1.length : Int)), oo], .br false, .reg [oo, oo, oo, oo], .reg [oo, oo, oo, oo, oo, oo], .reg [oo, oo, .op (.ln (x1.length : Int)), oo, oo, .op (.mk (ce_u32 (0 : Int)) ((List.replicate (IntKind.i64.wrap ((IntKind.i64.wrap ((IntKind.i64.wrap (Int.tdiv (min (max n (0 : Int)) (16777216 : Int)) (32 : Int))) + (x1.length : Int))) + (1 : Int))).toNat ((0 : Int) : Int)).map ce_u32)), oo], .reg [oo, oo, .op (.slR ((IntKind.i64.wrap (Int.tdiv (min (max n (0 : Int)) (16777216 : Int)) (32 : Int))).toNat) ((IntKind.i64.wrap ((IntKind.i64.wrap ((IntKind.i64.wrap (Int.tdiv (min (max n (0 : Int)) (16777216 : Int)) (32 : Int))) + (x1.length : Int))) + (1 : Int))).toNat) (0 + (IntKind.i64.wrap (Int.tdiv (min (max n (0 : Int)) (16777216 : Int)) (32 : Int))).toNat) ((IntKind.i64.wrap ((IntKind.i64.wrap ((IntKind.i64.wrap (Int.tdiv (min (max n (0 : Int)) (16777216 : Int)) (32 : Int))) + (x1.length : Int))) + (1 : Int))).toNat - (IntKind.i64.wrap (Int.tdiv (min (max n (0 : Int)) (16777216 : Int)) (32 : Int))).toNat)), oo, .op (.cp (x1.map ce_u32) ((copied (List.replicate (IntKind.i64.wrap ((IntKind.i64.wrap ((IntKind.i64.wrap (Int.tdiv (min (max n (0 : Int)) (16777216 : Int)) (32 : Int))) + (x1.length : Int))) + (1 : Int))).toNat ((0 : Int) : Int)) (0 + (IntKind.i64.wrap (Int.tdiv (min (max n (0 : Int)) (16777216 : Int)) (32 : Int))).toNat) ((IntKind.i64.wrap ((IntKind.i64.wrap ((IntKind.i64.wrap (Int.tdiv (min (max n (0 : Int)) (16777216 : Int)) (32 : Int))) + (x1.length : Int))) + (1 : Int))).toNat - (IntKind.i64.wrap (Int.tdiv (min (max n (0 : Int)) (16777216 : Int)) (32 : Int))).toNat) x1).map ce_u32) ((min x1.length ((IntKind.i64.wrap ((IntKind.i64.wrap ((IntKind.i64.wrap (Int.tdiv (min (max n (0 : Int)) (16777216 : Int)) (32 : Int))) + (x1.length : Int))) + (1 : Int))).toNat - (IntKind.i64.wrap (Int.tdiv (min (max n (0 : Int)) (16777216 : Int)) (32 : Int))).toNat) : Nat) : Int))], .reg [oo, oo], .br true, .reg [oo], .reg [oo, oo], .pre [.rl 7 0 (copied (List.replicate (IntKind.i64.wrap ((IntKind.i64.wrap ((IntKind.i64.wrap (Int.tdiv (min (max n (0 : Int)) (16777216 : Int)) (32 : Int))) + (x1.length : Int))) + (1 : Int))).toNat ((0 : Int) : Int)) (0 + (IntKind.i64.wrap (Int.tdiv (min (max n (0 : Int)) (16777216 : Int)) (32 : Int))).toNat) ((IntKind.i64.wrap ((IntKind.i64.wrap ((IntKind.i64.wrap (Int.tdiv (min (max n (0 : Int)) (16777216 : Int)) (32 : Int))) + (x1.length : Int))) + (1 : Int))).toNat - (IntKind.i64.wrap (Int.tdiv (min (max n (0 : Int)) (16777216 : Int)) (32 : Int))).toNat) x1).length, .keep [6,7,8,9] [28]]] _ hn (by kernel_rfl) (aC (natural_trim_holds h2) <| aC (ln_eq x1 ce_u32) <| aC h3 <| aC (ln_eq x1 ce_u32) <| aC h4.1 <| aC h4.2.1 <| aC h4.2.2 <| aC (rep_map _ _ _ : List.replicate (IntKind.i64.wrap ((IntKind.i64.wrap ((IntKind.i64.wrap (Int.tdiv (min (max n (0 : Int)) (16777216 : Int)) (32 : Int))) + (x1.length : Int))) + (1 : Int))).toNat (ce_u32 (0 : Int)) = (List.replicate (IntKind.i64.wrap ((IntKind.i64.wrap ((IntKind.i64.wrap (Int.tdiv (min (max n (0 : Int)) (16777216 : Int)) (32 : Int))) + (x1.length : Int))) + (1 : Int))).toNat ((0 : Int) : Int)).map ce_u32) <| aC (⟨h5.1, rfl⟩ : 0 ≤ (IntKind.i64.wrap (Int.tdiv (min (max n (0 : Int)) (16777216 : Int)) (32 : Int))) ∧ (IntKind.i64.wrap (Int.tdiv (min (max n (0 : Int)) (16777216 : Int)) (32 : Int))).toNat = (IntKind.i64.wrap (Int.tdiv (min (max n (0 : Int)) (16777216 : Int)) (32 : Int))).toNat) <| aC (rfl : (IntKind.i64.wrap ((IntKind.i64.wrap ((IntKind.i64.wrap (Int.tdiv (min (max n (0 : Int)) (16777216 : Int)) (32 : Int))) + (x1.length : Int))) + (1 : Int))).toNat = (IntKind.i64.wrap ((IntKind.i64.wrap ((IntKind.i64.wrap (Int.tdiv (min (max n (0 : Int)) (16777216 : Int)) (32 : Int))) + (x1.length : Int))) + (1 : Int))).toNat) <| aC h5.2.1 <| aC h5.2.2.1 <| aC h5.2.2.2 <| aC (rfl : 0 + (IntKind.i64.wrap (Int.tdiv (min (max n (0 : Int)) (16777216 : Int)) (32 : Int))).toNat = (0 + (IntKind.i64.wrap (Int.tdiv (min (max n (0 : Int)) (16777216 : Int)) (32 : Int))).toNat)) <| aC (rfl : (IntKind.i64.wrap ((IntKind.i64.wrap ((IntKind.i64.wrap (Int.tdiv (min (max n (0 : Int)) (16777216 : Int)) (32 : Int))) + (x1.length : Int))) + (1 : Int))).toNat - (IntKind.i64.wrap (Int.tdiv (min (max n (0 : Int)) (16777216 : Int)) (32 : Int))).toNat = ((IntKind.i64.wrap ((IntKind.i64.wrap ((IntKind.i64.wrap (Int.tdiv (min (max n (0 : Int)) (16777216 : Int)) (32 : Int))) + (x1.length : Int))) + (1 : Int))).toNat - (IntKind.i64.wrap (Int.tdiv (min (max n (0 : Int)) (16777216 : Int)) (32 : Int))).toNat)) <| aC (rfl : x1.map ce_u32 = x1.map ce_u32) <| aC (copied_map _ _ _ _ _ h6 : splice ((List.replicate (IntKind.i64.wrap ((IntKind.i64.wrap ((IntKind.i64.wrap (Int.tdiv (min (max n (0 : Int)) (16777216 : Int)) (32 : Int))) + (x1.length : Int))) + (1 : Int))).toNat ((0 : Int) : Int)).map ce_u32) (0 + (IntKind.i64.wrap (Int.tdiv (min (max n (0 : Int)) (16777216 : Int)) (32 : Int))).toNat) ((x1.map ce_u32).take (min (x1.map ce_u32).length ((IntKind.i64.wrap ((IntKind.i64.wrap ((IntKind.i64.wrap (Int.tdiv (min (max n (0 : Int)) (16777216 : Int)) (32 : Int))) + (x1.length : Int))) + (1 : Int))).toNat - (IntKind.i64.wrap (Int.tdiv (min (max n (0 : Int)) (16777216 : Int)) (32 : Int))).toNat))) = (copied (List.replicate (IntKind.i64.wrap ((IntKind.i64.wrap ((IntKind.i64.wrap (Int.tdiv (min (max n (0 : Int)) (16777216 : Int)) (32 : Int))) + (x1.length : Int))) + (1 : Int))).toNat ((0 : Int) : Int)) (0 + (IntKind.i64.wrap (Int.tdiv (min (max n (0 : Int)) (16777216 : Int)) (32 : Int))).toNat) ((IntKind.i64.wrap ((IntKind.i64.wrap ((IntKind.i64.wrap (Int.tdiv (min (max n (0 : Int)) (16777216 : Int)) (32 : Int))) + (x1.length : Int))) + (1 : Int))).toNat - (IntKind.i64.wrap (Int.tdiv (min (max n (0 : Int)) (16777216 : Int)) (32 : Int))).toNat) x1).map ce_u32) <| aC (by rw [len_map] : ((min (x1.map ce_u32).length ((IntKind.i64.wrap ((IntKind.i64.wrap ((IntKind.i64.wrap (Int.tdiv (min (max n (0 : Int)) (16777216 : Int)) (32 : Int))) + (x1.length : Int))) + (1 : Int))).toNat - (IntKind.i64.wrap (Int.tdiv (min (max n (0 : Int)) (16777216 : Int)) (32 : Int))).toNat) : Nat) : Int) = ((min x1.length ((IntKind.i64.wrap ((IntKind.i64.wrap ((IntKind.i64.wrap (Int.tdiv (min (max n (0 : Int)) (16777216 : Int)) (32 : Int))) + (x1.length : Int))) + (1 : Int))).toNat - (IntKind.i64.wrap (Int.tdiv (min (max n (0 : Int)) (16777216 : Int)) (32 : Int))).toNat) : Nat) : Int)) <| aC h7 <| aC r0 <| aC (by simp : (IntKind.i64.wrap ((IntKind.i64.wrap ((IntKind.i64.wrap (Int.tdiv (min (max n (0 : Int)) (16777216 : Int)) (32 : Int))) + (x1.length : Int))) + (1 : Int))).toNat = (copied (List.replicate (IntKind.i64.wrap ((IntKind.i64.wrap ((IntKind.i64.wrap (Int.tdiv (min (max n (0 : Int)) (16777216 : Int)) (32 : Int))) + (x1.length : Int))) + (1 : Int))).toNat ((0 : Int) : Int)) (0 + (IntKind.i64.wrap (Int.tdiv (min (max n (0 : Int)) (16777216 : Int)) (32 : Int))).toNat) ((IntKind.i64.wrap ((IntKind.i64.wrap ((IntKind.i64.wrap (Int.tdiv (min (max n (0 : Int)) (16777216 : Int)) (32 : Int))) + (x1.length : Int))) + (1 : Int))).toNat - (IntKind.i64.wrap (Int.tdiv (min (max n (0 : Int)) (16777216 : Int)) (32 : Int))).toNat) x1).length) <| aN) (ih _ _ h cx hn)
    · skip
      obtain ⟨x8, h9, h⟩ := obind h
      have h := Option.some.inj h; subst h
      exact wk_ret (fuel := 130) [.reg [oo], .reg [oo, .op (.call [[1]] [(tl 1 a ce_u32)] (tl 1 x1 ce_u32)), oo], .reg [oo, .op (.ln (x1.length : Int)), oo], .br false, .reg [oo, oo, oo, oo], .reg [oo, oo, oo, oo, oo, oo], .reg [oo, oo, .op (.ln (x1.length : Int)), oo, oo, .op (.mk (ce_u32 (0 : Int)) ((List.replicate (IntKind.i64.wrap ((IntKind.i64.wrap ((IntKind.i64.wrap (Int.tdiv (min (max n (0 : Int)) (16777216 : Int)) (32 : Int))) + (x1.length : Int))) + (1 : Int))).toNat ((0 : Int) : Int)).map ce_u32)), oo], .reg [oo, oo, .op (.slR ((IntKind.i64.wrap (Int.tdiv (min (max n (0 : Int)) (16777216 : Int)) (32 : Int))).toNat) ((IntKind.i64.wrap ((IntKind.i64.wrap ((IntKind.i64.wrap (Int.tdiv (min (max n (0 : Int)) (16777216 : Int)) (32 : Int))) + (x1.length : Int))) + (1 : Int))).toNat) (0 + (IntKind.i64.wrap (Int.tdiv (min (max n (0 : Int)) (16777216 : Int)) (32 : Int))).toNat) ((IntKind.i64.wrap ((IntKind.i64.wrap ((IntKind.i64.wrap (Int.tdiv (min (max n (0 : Int)) (16777216 : Int)) (32 : Int))) + (x1.length : Int))) + (1 : Int))).toNat - (IntKind.i64.wrap (Int.tdiv (min (max n (0 : Int)) (16777216 : Int)) (32 : Int))).toNat)), oo, .op (.cp (x1.map ce_u32) ((copied (List.replicate (IntKind.i64.wrap ((IntKind.i64.wrap ((IntKind.i64.wrap (Int.tdiv (min (max n (0 : Int)) (16777216 : Int)) (32 : Int))) + (x1.length : Int))) + (1 : Int))).toNat ((0 : Int) : Int)) (0 + (IntKind.i64.wrap (Int.tdiv (min (max n (0 : Int)) (16777216 : Int)) (32 : Int))).toNat) ((IntKind.i64.wrap ((IntKind.i64.wrap ((IntKind.i64.wrap (Int.tdiv (min (max n (0 : Int)) (16777216 : Int)) (32 : Int))) + (x1.length : Int))) + (1 : Int))).toNat - (IntKind.i64.wrap (Int.tdiv (min (max n (0 : Int)) (16777216 : Int)) (32 : Int))).toNat) x1).map ce_u32) ((min x1.length ((IntKind.i64.wrap ((IntKind.i64.wrap ((IntKind.i64.wrap (Int.tdiv (min (max n (0 : Int)) (16777216 : Int)) (32 : Int))) + (x1.length : Int))) + (1 : Int))).toNat - (IntKind.i64.wrap (Int.tdiv (min (max n (0 : Int)) (16777216 : Int)) (32 : Int))).toNat) : Nat) : Int))], .reg [oo, oo], .br false, .reg [oo, .snap 59 (max 0 (0 + (IntKind.i64.wrap ((IntKind.i64.wrap ((IntKind.i64.wrap (Int.tdiv (min (max n (0 : Int)) (16777216 : Int)) (32 : Int))) + (x1.length : Int))) + (1 : Int))).toNat)) ((copied (List.replicate (IntKind.i64.wrap ((IntKind.i64.wrap ((IntKind.i64.wrap (Int.tdiv (min (max n (0 : Int)) (16777216 : Int)) (32 : Int))) + (x1.length : Int))) + (1 : Int))).toNat ((0 : Int) : Int)) (0 + (IntKind.i64.wrap (Int.tdiv (min (max n (0 : Int)) (16777216 : Int)) (32 : Int))).toNat) ((IntKind.i64.wrap ((IntKind.i64.wrap ((IntKind.i64.wrap (Int.tdiv (min (max n (0 : Int)) (16777216 : Int)) (32 : Int))) + (x1.length : Int))) + (1 : Int))).toNat - (IntKind.i64.wrap (Int.tdiv (min (max n (0 : Int)) (16777216 : Int)) (32 : Int))).toNat) x1).map ce_u32), .op (.call [[1]] [(TV.c (T.sl 1 ((copied (List.replicate (IntKind.i64.wrap ((IntKind.i64.wrap ((IntKind.i64.wrap (Int.tdiv (min (max n (0 : Int)) (16777216 : Int)) (32 : Int))) + (x1.length : Int))) + (1 : Int))).toNat ((0 : Int) : Int)) (0 + (IntKind.i64.wrap (Int.tdiv (min (max n (0 : Int)) (16777216 : Int)) (32 : Int))).toNat) ((IntKind.i64.wrap ((IntKind.i64.wrap ((IntKind.i64.wrap (Int.tdiv (min (max n (0 : Int)) (16777216 : Int)) (32 : Int))) + (x1.length : Int))) + (1 : Int))).toNat - (IntKind.i64.wrap (Int.tdiv (min (max n (0 : Int)) (16777216 : Int)) (32 : Int))).toNat) x1).map ce_u32)))] (tl 1 x8 ce_u32)), oo]] _ hn (by kernel_rfl) (aC (natural_trim_holds h2) <| aC (ln_eq x1 ce_u32) <| aC h3 <| aC (ln_eq x1 ce_u32) <| aC h4.1 <| aC h4.2.1 <| aC h4.2.2 <| aC (rep_map _ _ _ : List.replicate (IntKind.i64.wrap ((IntKind.i64.wrap ((IntKind.i64.wrap (Int.tdiv (min (max n (0 : Int)) (16777216 : Int)) (32 : Int))) + (x1.length : Int))) + (1 : Int))).toNat (ce_u32 (0 : Int)) = (List.replicate (IntKind.i64.wrap ((IntKind.i64.wrap ((IntKind.i64.wrap (Int.tdiv (min (max n (0 : Int)) (16777216 : Int)) (32 : Int))) + (x1.length : Int))) + (1 : Int))).toNat ((0 : Int) : Int)).map ce_u32) <| aC (⟨h5.1, rfl⟩ : 0 ≤ (IntKind.i64.wrap (Int.tdiv (min (max n (0 : Int)) (16777216 : Int)) (32 : Int))) ∧ (IntKind.i64.wrap (Int.tdiv (min (max n (0 : Int)) (16777216 : Int)) (32 : Int))).toNat = (IntKind.i64.wrap (Int.tdiv (min (max n (0 : Int)) (16777216 : Int)) (32 : Int))).toNat) <| aC (rfl : (IntKind.i64.wrap ((IntKind.i64.wrap ((IntKind.i64.wrap (Int.tdiv (min (max n (0 : Int)) (16777216 : Int)) (32 : Int))) + (x1.length : Int))) + (1 : Int))).toNat = (IntKind.i64.wrap ((IntKind.i64.wrap ((IntKind.i64.wrap (Int.tdiv (min (max n (0 : Int)) (16777216 : Int)) (32 : Int))) + (x1.length : Int))) + (1 : Int))).toNat) <| aC h5.2.1 <| aC h5.2.2.1 <| aC h5.2.2.2 <| aC (rfl : 0 + (IntKind.i64.wrap (Int.tdiv (min (max n (0 : Int)) (16777216 : Int)) (32 : Int))).toNat = (0 + (IntKind.i64.wrap (Int.tdiv (min (max n (0 : Int)) (16777216 : Int)) (32 : Int))).toNat)) <| aC (rfl : (IntKind.i64.wrap ((IntKind.i64.wrap ((IntKind.i64.wrap (Int.tdiv (min (max n (0 : Int)) (16777216 : Int)) (32 : Int))) + (x1.length : Int))) + (1 : Int))).toNat - (IntKind.i64.wrap (Int.tdiv (min (max n (0 : Int)) (16777216 : Int)) (32 : Int))).toNat = ((IntKind.i64.wrap ((IntKind.i64.wrap ((IntKind.i64.wrap (Int.tdiv (min (max n (0 : Int)) (16777216 : Int)) (32 : Int))) + (x1.length : Int))) + (1 : Int))).toNat - (IntKind.i64.wrap (Int.tdiv (min (max n (0 : Int)) (16777216 : Int)) (32 : Int))).toNat)) <| aC (rfl : x1.map ce_u32 = x1.map ce_u32) <| aC (copied_map _ _ _ _ _ h6 : splice ((List.replicate (IntKind.i64.wrap ((IntKind.i64.wrap ((IntKind.i64.wrap (Int.tdiv (min (max n (0 : Int)) (16777216 : Int)) (32 : Int))) + (x1.length : Int))) + (1 : Int))).toNat ((0 : Int) : Int)).map ce_u32) (0 + (IntKind.i64.wrap (Int.tdiv (min (max n (0 : Int)) (16777216 : Int)) (32 : Int))).toNat) ((x1.map ce_u32).take (min (x1.map ce_u32).length ((IntKind.i64.wrap ((IntKind.i64.wrap ((IntKind.i64.wrap (Int.tdiv (min (max n (0 : Int)) (16777216 : Int)) (32 : Int))) + (x1.length : Int))) + (1 : Int))).toNat - (IntKind.i64.wrap (Int.tdiv (min (max n (0 : Int)) (16777216 : Int)) (32 : Int))).toNat))) = (copied (List.replicate (IntKind.i64.wrap ((IntKind.i64.wrap ((IntKind.i64.wrap (Int.tdiv (min (max n (0 : Int)) (16777216 : Int)) (32 : Int))) + (x1.length : Int))) + (1 : Int))).toNat ((0 : Int) : Int)) (0 + (IntKind.i64.wrap (Int.tdiv (min (max n (0 : Int)) (16777216 : Int)) (32 : Int))).toNat) ((IntKind.i64.wrap ((IntKind.i64.wrap ((IntKind.i64.wrap (Int.tdiv (min (max n (0 : Int)) (16777216 : Int)) (32 : Int))) + (x1.length : Int))) + (1 : Int))).toNat - (IntKind.i64.wrap (Int.tdiv (min (max n (0 : Int)) (16777216 : Int)) (32 : Int))).toNat) x1).map ce_u32) <| aC (by rw [len_map] : ((min (x1.map ce_u32).length ((IntKind.i64.wrap ((IntKind.i64.wrap ((IntKind.i64.wrap (Int.tdiv (min (max n (0 : Int)) (16777216 : Int)) (32 : Int))) + (x1.length : Int))) + (1 : Int))).toNat - (IntKind.i64.wrap (Int.tdiv (min (max n (0 : Int)) (16777216 : Int)) (32 : Int))).toNat) : Nat) : Int) = ((min x1.length ((IntKind.i64.wrap ((IntKind.i64.wrap ((IntKind.i64.wrap (Int.tdiv (min (max n (0 : Int)) (16777216 : Int)) (32 : Int))) + (x1.length : Int))) + (1 : Int))).toNat - (IntKind.i64.wrap (Int.tdiv (min (max n (0 : Int)) (16777216 : Int)) (32 : Int))).toNat) : Nat) : Int)) <| aC h7 <| aC (sn_map _ _ _ (by simp) : (((copied (List.replicate (IntKind.i64.wrap ((IntKind.i64.wrap ((IntKind.i64.wrap (Int.tdiv (min (max n (0 : Int)) (16777216 : Int)) (32 : Int))) + (x1.length : Int))) + (1 : Int))).toNat ((0 : Int) : Int)) (0 + (IntKind.i64.wrap (Int.tdiv (min (max n (0 : Int)) (16777216 : Int)) (32 : Int))).toNat) ((IntKind.i64.wrap ((IntKind.i64.wrap ((IntKind.i64.wrap (Int.tdiv (min (max n (0 : Int)) (16777216 : Int)) (32 : Int))) + (x1.length : Int))) + (1 : Int))).toNat - (IntKind.i64.wrap (Int.tdiv (min (max n (0 : Int)) (16777216 : Int)) (32 : Int))).toNat) x1).map ce_u32).drop 0).take ((IntKind.i64.wrap ((IntKind.i64.wrap ((IntKind.i64.wrap (Int.tdiv (min (max n (0 : Int)) (16777216 : Int)) (32 : Int))) + (x1.length : Int))) + (1 : Int))).toNat) = (copied (List.replicate (IntKind.i64.wrap ((IntKind.i64.wrap ((IntKind.i64.wrap (Int.tdiv (min (max n (0 : Int)) (16777216 : Int)) (32 : Int))) + (x1.length : Int))) + (1 : Int))).toNat ((0 : Int) : Int)) (0 + (IntKind.i64.wrap (Int.tdiv (min (max n (0 : Int)) (16777216 : Int)) (32 : Int))).toNat) ((IntKind.i64.wrap ((IntKind.i64.wrap ((IntKind.i64.wrap (Int.tdiv (min (max n (0 : Int)) (16777216 : Int)) (32 : Int))) + (x1.length : Int))) + (1 : Int))).toNat - (IntKind.i64.wrap (Int.tdiv (min (max n (0 : Int)) (16777216 : Int)) (32 : Int))).toNat) x1).map ce_u32) <| aC (rfl : (max 0 (0 + (IntKind.i64.wrap ((IntKind.i64.wrap ((IntKind.i64.wrap (Int.tdiv (min (max n (0 : Int)) (16777216 : Int)) (32 : Int))) + (x1.length : Int))) + (1 : Int))).toNat)) = (max 0 (0 + (IntKind.i64.wrap ((IntKind.i64.wrap ((IntKind.i64.wrap (Int.tdiv (min (max n (0 : Int)) (16777216 : Int)) (32 : Int))) + (x1.length : Int))) + (1 : Int))).toNat))) <| aC (natural_trim_holds h9) <| aN)

theorem natural_Shl_c1 {K} (ih : natural_Shl_H K) {cx} (hn : cx.n = 61) {r28 shift low i} {r} (h : natural_Shl_go (K + 1) (.c1 r28 shift low i) = some r) : natural_Shl_S cx (.c1 r28 shift low i) r := by
  rw [natural_Shl_go] at h
  rcases bcases h with ⟨h1, h⟩ | ⟨h1, h⟩
  · skip
    obtain ⟨x2, h3, h⟩ := obind h
    obtain ⟨h4, h⟩ := gd_some h
    obtain ⟨x5, h6, h⟩ := obind h
    obtain ⟨h7, h⟩ := gd_some h
    exact wk_go (fuel := 98) [.go, .reg [oo, oo, oo, oo], .br true, .reg [oo, oo, .op .ir, .op (.ld (ce_u32 x2)), oo], .reg [oo, oo, oo, oo, .op .dv, oo, oo, .op .ir, .op (.st (ce_u32 x5) ((r28.set (i.toNat) (bits .or .u32 (shlOp .u32 x2 shift) low)).map ce_u32))], .reg [oo, oo, oo, .op .dv, oo], .reg [oo, oo, oo], .pre [.rl 7 0 (r28.set (i.toNat) (bits .or .u32 (shlOp .u32 x2 shift) low)).length, .keep [6,7,8,9] [28]]] _ hn (by kernel_rfl) (aC h1 <| aC (gi_nn h3) <| aC (gi_lt2 h3 (by simp) : i < ((r28.length : Nat) : Int)) <| aC (gi_row ce_u32 h3 : (r28.map ce_u32)[(0 + i.toNat)]? = some (ce_u32 x2)) <| aC h4 <| aC (gi_nn h6) <| aC (gi_lt2 h6 (by simp) : i < ((r28.length : Nat) : Int)) <| aC (gi_row ce_u32 h6 : (r28.map ce_u32)[(0 + i.toNat)]? = some (ce_u32 x5)) <| aC (set_map _ _ (bits .or .u32 (shlOp .u32 x2 shift) low) _ : (r28.map ce_u32).set (0 + i.toNat) (splice (ce_u32 x5) 0 [(T.int .u32 (bits .or .u32 (shlOp .u32 x2 shift) low))]) = (r28.set (i.toNat) (bits .or .u32 (shlOp .u32 x2 shift) low)).map ce_u32) <| aC (Nat.zero_le _ : 0 ≤ (0 + i.toNat)) <| aC h7 <| aC r0 <| aC (by simp : r28.length = (r28.set (i.toNat) (bits .or .u32 (shlOp .u32 x2 shift) low)).length) <| aN) (ih _ _ h cx hn)
  · skip
    obtain ⟨x2, h3, h⟩ := obind h
    have h := Option.some.inj h; subst h
    exact wk_ret (fuel := 78) [.go, .reg [oo, oo, oo, oo], .br false, .reg [oo, .snap 59 (max 0 (0 + r28.length)) (r28.map ce_u32), .op (.call [[1]] [(tl 1 r28 ce_u32)] (tl 1 x2 ce_u32)), oo]] _ hn (by kernel_rfl) (aC h1 <| aC (sn_map _ _ _ (by simp) : ((r28.map ce_u32).drop 0).take r28.length = r28.map ce_u32) <| aC (rfl : (max 0 (0 + r28.length)) = (max 0 (0 + r28.length))) <| aC (natural_trim_holds h3) <| aN)

theorem natural_Shl_all : ∀ K : Nat, natural_Shl_H K
  | 0, c, r, h => by rw [natural_Shl_go] at h; cases h
  | K + 1, .c0 .., r, h => fun cx hn => natural_Shl_c0 (natural_Shl_all K) hn h
  | K + 1, .c1 .., r, h => fun cx hn => natural_Shl_c1 (natural_Shl_all K) hn h

theorem natural_Shl_holds {K : Nat} {a : (List Int)} {n : Int} {r : (List Int)} (h : natural_Shl K a n = some r) : Holds prog 142 [(tl 1 a ce_u32), (ti .i64 n)] (tl 1 r ce_u32) :=
  holds_wk [[1]] (by kernel_rfl) (by simp) fun cx hn => natural_Shl_all K (.c0 a n) r h cx hn
end Go.Am.X
namespace Go.Am.X
open Go.Proofs.Try (prog)


inductive integer_Add_Cut where
  | c0 (a : integer_Int) (b : integer_Int)

def integer_Add_go : Nat → integer_Add_Cut → Option integer_Int
  | 0, _ => none
  | K + 1, .c0 a b =>
    bif (a.Neg == b.Neg) then
      (natural_Add K a.Abs b.Abs).bind fun x2 =>
      (integer_made K a.Neg x2).bind fun x4 =>
      some x4
    else
      (natural_Sub K a.Abs b.Abs).bind fun x2 =>
      bif x2.2 then
        (integer_made K a.Neg x2.1).bind fun x5 =>
        some x5
      else
        (natural_Sub K b.Abs a.Abs).bind fun x5 =>
        (integer_made K b.Neg x5.1).bind fun x7 =>
        some x7

def integer_Add (K : Nat) (a : integer_Int) (b : integer_Int) : Option integer_Int := integer_Add_go K (.c0 a b)

noncomputable def integer_Add_body : Code := bodyOf prog 54
noncomputable def integer_Add_pos : integer_Add_Cut → List Fr
  | .c0 .. => [.code integer_Add_body]
def integer_Add_st : integer_Add_Cut → St
  | .c0 a b => St.init [(TV.agg (ce_integer_Int a)), (TV.agg (ce_integer_Int b))]

def integer_Add_S (cx : Cx) (c : integer_Add_Cut) (r : integer_Int) : Prop := Wk prog cx (EndsF prog 54 [[0,1]] (TV.agg (ce_integer_Int r))) (integer_Add_pos c) .normal (integer_Add_st c)
abbrev integer_Add_H (K : Nat) : Prop := ∀ c r, integer_Add_go K c = some r → ∀ cx : Cx, cx.n = 47 → integer_Add_S cx c r

theorem integer_Add_c0 {K} (_ : integer_Add_H K) {cx} (hn : cx.n = 47) {a b} {r} (h : integer_Add_go (K + 1) (.c0 a b) = some r) : integer_Add_S cx (.c0 a b) r := by
  rw [integer_Add_go] at h
  rcases bcases h with ⟨h1, h⟩ | ⟨h1, h⟩
  · skip
    obtain ⟨x2, h3, h⟩ := obind h
    obtain ⟨x4, h5, h⟩ := obind h
    have h := Option.some.inj h; subst h
    exact wk_ret (fuel := 72) [.reg [oo, oo, oo], .reg [oo, oo, oo, oo, oo], .br true, .draw [.p, .p, .p, .p, .p, .p, (.call [[1], [1]] [(TV.c (T.sl 1 (a.Abs.map ce_u32))), (TV.c (T.sl 1 (b.Abs.map ce_u32)))] (tl 1 x2 ce_u32))] [.op (.call [[0], [1]] [(TV.c (T.bool a.Neg)), (tl 1 x2 ce_u32)] (TV.agg (ce_integer_Int x4))), .op .p]] _ hn (by kernel_rfl) (aC h1 <| aC (natural_Add_holds h3) <| aC (integer_made_holds h5) <| aN)
  · skip
    obtain ⟨x2, h3, h⟩ := obind h
    rcases bcases h with ⟨h4, h⟩ | ⟨h4, h⟩
    · skip
      obtain ⟨x5, h6, h⟩ := obind h
      have h := Option.some.inj h; subst h
      exact wk_ret (fuel := 98) [.reg [oo, oo, oo], .reg [oo, oo, oo, oo, oo], .br false, .reg [oo, oo, oo, oo, .op (.call [[1], [1]] [(TV.c (T.sl 1 (a.Abs.map ce_u32))), (TV.c (T.sl 1 (b.Abs.map ce_u32)))] (TV.tup [(false, [(T.sl 1 (x2.1.map ce_u32))]), (false, [(T.bool x2.2)])])), oo, oo, oo, oo, oo], .reg [oo], .br true, .reg [oo, oo, oo, .op (.call [[0], [1]] [(TV.c (T.bool a.Neg)), (tl 1 x2.1 ce_u32)] (TV.agg (ce_integer_Int x5))), oo]] _ hn (by kernel_rfl) (aC h1 <| aC (natural_Sub_holds h3) <| aC h4 <| aC (integer_made_holds h6) <| aN)
    · skip
      obtain ⟨x5, h6, h⟩ := obind h
      obtain ⟨x7, h8, h⟩ := obind h
      have h := Option.some.inj h; subst h
      exact wk_ret (fuel := 106) [.reg [oo, oo, oo], .reg [oo, oo, oo, oo, oo], .br false, .reg [oo, oo, oo, oo, .op (.call [[1], [1]] [(TV.c (T.sl 1 (a.Abs.map ce_u32))), (TV.c (T.sl 1 (b.Abs.map ce_u32)))] (TV.tup [(false, [(T.sl 1 (x2.1.map ce_u32))]), (false, [(T.bool x2.2)])])), oo, oo, oo, oo, oo], .reg [oo], .br false, .reg [oo, oo, oo, oo, .op (.call [[1], [1]] [(TV.c (T.sl 1 (b.Abs.map ce_u32))), (TV.c (T.sl 1 (a.Abs.map ce_u32)))] (TV.tup [(false, [(T.sl 1 (x5.1.map ce_u32))]), (false, [(T.bool x5.2)])])), oo, oo, oo, oo, oo], .reg [oo, oo, oo, .op (.call [[0], [1]] [(TV.c (T.bool b.Neg)), (tl 1 x5.1 ce_u32)] (TV.agg (ce_integer_Int x7))), oo]] _ hn (by kernel_rfl) (aC h1 <| aC (natural_Sub_holds h3) <| aC h4 <| aC (natural_Sub_holds h6) <| aC (integer_made_holds h8) <| aN)

theorem integer_Add_all : ∀ K : Nat, integer_Add_H K
  | 0, c, r, h => by rw [integer_Add_go] at h; cases h
  | K + 1, .c0 .., r, h => fun cx hn => integer_Add_c0 (integer_Add_all K) hn h

theorem integer_Add_holds {K : Nat} {a : integer_Int} {b : integer_Int} {r : integer_Int} (h : integer_Add K a b = some r) : Holds prog 54 [(TV.agg (ce_integer_Int a)), (TV.agg (ce_integer_Int b))] (TV.agg (ce_integer_Int r)) :=
  holds_wk [[0,1]] (by kernel_rfl) (by simp) fun cx hn => integer_Add_all K (.c0 a b) r h cx hn
end Go.Am.X
