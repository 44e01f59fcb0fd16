/- Part 2 of the proof: Am16 .. M9. -/
import Derived.Test.YteciehfkhmbfeaaRa
import Derived.Scope
import Derived.Test.YteciehfkhmbfeaaProg
namespace Go.Am
open Go.RowKit (Below)
def AllP : List Prop → Prop
  | [] => True
  | p :: ps => p ∧ AllP ps
theorem AllP.append : ∀ {xs ys : List Prop}, AllP (xs ++ ys) → AllP xs ∧ AllP ys
  | [], _, h => ⟨trivial, h⟩
  | _ :: _, _, h => ⟨⟨h.1, (AllP.append h.2).1⟩, (AllP.append h.2).2⟩
inductive H where
  | p
  | ix (el : List T)
  | ir
  | ld (el : List T)
  | st (el : List T) (es : List (List T))
  | mk (zt : List T) (es : List (List T))
  | lit (es : List (List T))
  | appN (es : List (List T))
  | appR (es es2 : List (List T))
  | appT (es : List (List T))
  | call (hss : List (List Nat)) (ys : List TV) (res : TV)
  | slT (l h : Nat) (es : List (List T))
  | slR (l h off len : Nat)
  | clip (l h m off len : Nat)
  | sl0
  | ln (n : Int)
  | dv
  | sx (r : Int)
  | cp (es2 es : List (List T)) (n : Int)
  | slM (l h m : Nat) (es : List (List T))
  | litT (es : List (List T))
  | clo
  | app0
  | pk (b : Bool)
  | ia (n : Nat)
  | lit0
  | ga (b : Bool) (h : H)
def bndP (st : St) (o : Option Operand) (d r : Nat) : Option Prop :=
  match o with
  | none => some (r = d)
  | some x => match st.ev x with
    | .c (.t (.int _ n)) => some (0 ≤ n ∧ r = n.toNat)
    | _ => none
theorem qkR {st σ : St} {o : Option Operand} {d r : Nat} {p : Prop} (h : bndP st o d r = some p) (hp : p) (hs : ∀ x, o = some x → σ.ev x = st.ev x) : evB σ o d r := by
  cases o with
  | none => simp only [bndP] at h; cases h; exact hp
  | some x =>
    simp only [bndP] at h
    split at h
    · rename_i k n hx
      cases h
      exact ⟨k, n, (hs x rfl).trans hx, hp.1, hp.2⟩
    · cases h
def rkOf (st : St) (o : Oper) : List Nat := o.op.operands.toList.flatMap fun x => (st.ev x).keys
theorem rkOf_ok (st : St) (o : Oper) : keysOk st o (rkOf st o) = true := by
  simp only [keysOk, List.all_eq_true]
  intro x hx j hj
  simp only [List.contains_iff_mem, rkOf, List.mem_flatMap]
  exact ⟨x, hx, hj⟩
def newsOf (hp : List (Nat × Blk)) (sz : Nat) : V → Option (List (List T))
  | .c (.t (.sl sz' es)) => if sz' = sz then some es else none
  | .c .nil => some []
  | .c (.row j off len) => match hp.lookup j with | some (.row _ sz' es _) => if sz' = sz then some ((es.drop off).take len) else none | _ => none
  | .c (.clip j off len) => match hp.lookup j with | some (.row _ sz' es _) => if sz' = sz then some ((es.drop off).take len) else none | _ => none
  | _ => none
theorem qt6 {hp : List (Nat × Blk)} {sz : Nat} {v : V} {es : List (List T)} (h : newsOf hp sz v = some es) : NewsA hp sz v es := by
  unfold newsOf at h
  split at h
  · split at h
    · rename_i e; subst e; cases h; exact .t _
    · cases h
  · cases h; exact .nil
  · split at h
    · rename_i hl
      split at h
      · rename_i e; subst e; cases h; exact .row _ _ _ _ _ _ hl
      · cases h
    · cases h
  · split at h
    · rename_i hl
      split at h
      · rename_i e; subst e; cases h; exact .clip _ _ _ _ _ _ hl
      · cases h
    · cases h
  · cases h
section
variable {P : Program} {cx : Cx} {o : Oper} {st : St}
theorem run_call_copy {d x : Operand} {t t2 : TypeId} {v u : Value} (ho : o.op = .call { callee := .builtin .copy, args := #[d, x], argTypes := #[t, t2] })
    {a : Act} {w : World} (h1 : a.eval d = v) (h2 : a.eval x = u) {r : Value} {w' : World} (hr : (Builtin.copy_ #[t, t2] o.type #[v, u]).run P w = .ok r w') : (execOp a.eval o).run P w = .ok (.value r) w' := by
  simp only [execOp, ho, resolve, Sem.run_bind, Sem.run_pure, Result.andThen_ok, invoke, builtin, List.map_toArray, List.map_cons, List.map_nil, h1, h2, hr]
theorem run_copy_none (w : World) (dT sT ty elem : TypeId) (a : Addr) (ad : Option Addr) (dLen dCap sCap : Nat) (hu : P.underlying dT = some (.slice elem)) (hs : ((P.info? elem).map (·.size)).isSome = true) :
    (Builtin.copy_ #[dT, sT] ty #[.slice (some a) dLen dCap, .slice ad 0 sCap]).run P w = .ok (goInt 0) w := by
  cases hq : P.info? elem with
  | none => simp [hq] at hs
  | some i => cases ad <;> simp [Builtin.copy_, run_underlying hu, Builtin.lenOf, Builtin.firstCells, sizeOf, typeInfo, hq, storeCells, loadCells, loadCellsFrom]
theorem ok_copy {t t2 : TypeId} {d x : Operand} {j off len e by' : Nat} {z : Value} {es es2 : List (List T)} (ho : o.op = .call { callee := .builtin .copy, args := #[d, x], argTypes := #[t, t2] })
    (hi : qgE P t = some (e, 1, by', z)) (hs : st.ev d = .c (.row j off len)) (hj : st.hp.lookup j = some (.row e 1 es 0)) (hn : NewsA st.hp 1 (st.ev x) es2) :
    OpOK P cx o st ((st.addB j (.row e 1 (qbY es off (es2.take (min es2.length len))) 0)).put? o.dst (.c (.t (.int .i64 ((min es2.length len : Nat) : Int))))) := by
  intro hd' a w hsim K Q hK
  obtain ⟨L, I, h⟩ := hsim
  obtain ⟨ad, cap, hx, hes2, hc⟩ := (hn.R h (h.ev x)).cells
  have hv := h.ev d
  rw [hs] at hv
  obtain ⟨g1, g2⟩ := hv e 1 es 0 hj
  obtain ⟨ii, hu, hie, hsize, _, _, _⟩ := qhC hi
  have hsz1 : (P.info? e).map (·.size) = some 1 := by rw [hie]; simp [hsize]
  obtain ⟨hB, hsz0, hcap, hmx, hes, hIf, arr, hg, hsz, hcs⟩ := h.hp j _ hj
  rw [Nat.mul_one] at g2
  have fin : ∀ (cs : List Value), cs.length = min es2.length len → (∀ (q : Nat) (y : List T) (t' : T), (es2.take (min es2.length len))[q]? = some y → y[0]? = some t' → ∃ u, cs[q]? = some u ∧ Rep w I u t') →
      SimD cx L I (st.addB j (.row e 1 (qbY es off (es2.take (min es2.length len))) 0)) a (w.setRow (L.m j) (qbY arr.toList off cs).toArray) := by
    intro cs hcl hcr
    have hn' : (es2.take (min es2.length len)).length = min es2.length len := by rw [List.length_take]; omega
    have hfit : off + cs.length ≤ arr.size := by rw [hsz]; omega
    have hget : ∀ q, (qbY arr.toList off cs).toArray[q]? = if off ≤ q ∧ q < off + cs.length then cs[q - off]? else arr[q]? := by
      intro q
      rw [List.getElem?_toArray, splice_get _ _ _ (by simpa using hfit)]
      simp
    refine h.write hj hg (fun e' sz' es' fz' he => by cases he; exact ⟨es, 0, rfl, by simp only [qbY, List.length_append, List.length_take, List.length_drop]; omega⟩) (fun q hq => ?_) fun kk => ?_
    · have := hIf q hq
      omega
    · refine ⟨hB, hsz0, ?_, hmx, ?_, hIf, _, setRow_heap w _ arr _ e _ hg, ?_, ?_⟩
      · simp only [qbY, List.length_append, List.length_take, List.length_drop]; omega
      · intro y hy
        simp only [qbY, List.mem_append] at hy
        rcases hy with (hy | hy) | hy
        · exact hes y (List.mem_of_mem_take hy)
        · exact hes2 y (List.mem_of_mem_take hy)
        · exact hes y (List.mem_of_mem_drop hy)
      · simp only [List.size_toArray, qbY, List.length_append, List.length_take, List.length_drop, Array.length_toList]; omega
      · intro i' k' y t' hy' ht'
        rw [splice_get _ _ _ (by rw [hn']; omega)] at hy'
        have hk' : k' = 0 := by
          have h1 := (List.getElem?_eq_some_iff.1 ht').1
          have h2 : y.length = 1 := by
            split at hy'
            · exact hes2 y (List.mem_of_mem_take (List.mem_of_getElem? hy'))
            · exact hes y (List.mem_of_getElem? hy')
          omega
        subst hk'
        rw [hget, Nat.mul_one, Nat.add_zero]
        by_cases hin : off ≤ i' ∧ i' < off + min es2.length len
        · rw [if_pos (by rw [hn']; exact hin)] at hy'
          rw [if_pos (by rw [hcl]; exact hin)]
          obtain ⟨u, q1, q2⟩ := hcr _ y t' hy' ht'
          exact ⟨u, q1, kk.rep q2⟩
        · rw [if_neg (by rw [hn']; exact hin)] at hy'
          rw [if_neg (by rw [hcl]; exact hin)]
          obtain ⟨v, q1, q2⟩ := hcs i' 0 y t' hy' ht'
          rw [Nat.mul_one, Nat.add_zero] at q1
          exact ⟨v, q1, kk.rep q2⟩
  have goI : ∀ n : Nat, goInt n = .int .i64 (n : Int) := fun n => rfl
  unfold Oper.wp
  rcases hc with rfl | ⟨b, so, rfl, news, hl, hcell, h1, hrep⟩
  · have hrun := run_call_copy (P := P) (w := w) ho g2 hx (run_copy_none (P := P) w t t2 o.type e ⟨L.m j, off, none⟩ ad len (L.cp j - off) cap hu (by rw [hsz1]; rfl))
    rw [hrun]
    refine hK _ _ (qk4 (v := .c (.t (.int .i64 _))) (L := L) (I := I) ?_ (.int _ _) hd')
    have := fin [] (by simp) (by simp)
    have hself : (qbY arr.toList off ([] : List Value)).toArray = arr := by simp [qbY]
    rw [hself, setRow_self w _ arr e (0, 0) hg] at this
    exact this
  · have hl1 : news.length = es2.length := by rw [hl, Nat.mul_one]
    have hrun := run_call_copy (P := P) (w := w) ho g2 hx (run_copy_row (P := P) w t t2 o.type e (L.m j) off len (L.cp j - off) ⟨b, so, none⟩ es2.length cap arr e (news.take (min es2.length len)) hu hsz1 hg
      (by rw [List.length_take, hl1]; simp only [Nat.min_def]; split <;> split <;> omega) (fun q u hq => by
        rw [List.getElem?_take] at hq
        split at hq
        · exact hcell q u hq
        · cases hq) (by rw [hsz, List.length_take, hl1]; omega) (fun u hu => h1 u (List.mem_of_mem_take hu)))
    rw [hrun]
    have hcl : (news.take (min es2.length len)).length = min es2.length len := by rw [List.length_take, hl1]; omega
    have hf := fin (news.take (min es2.length len)) hcl (fun q y t' hy ht => by
      rw [List.getElem?_take] at hy
      split at hy
      · rename_i hq
        obtain ⟨u, q1, q2⟩ := hrep q 0 y t' hy ht
        rw [Nat.mul_one, Nat.add_zero] at q1
        exact ⟨u, by rw [List.getElem?_take, if_pos hq]; exact q1, q2⟩
      · cases hy)
    rw [goI]
    unfold qbY at hf
    rw [hcl] at hf ⊢
    exact hK _ _ (qk4 (v := .c (.t (.int .i64 _))) hf (.int _ _) hd')
theorem y_indexStr {t : TypeId} {x ix : Operand} {s : ByteArray} {k : IntKind} {i : Int} {r : UInt8} (ho : o.op = .index t x ix) (ht : P.underlying t = some .string)
    (hx : st.ev x = .c (.t (.str s))) (hi : st.ev ix = .c (.t (.int k i))) (h0 : 0 ≤ i) (hr : s.data.toList[i.toNat]? = some r) : qd1 P cx o st (.c (.t (.int .u8 r.toNat))) := by
  intro L I a w h
  have hv := h.ev x
  rw [hx] at hv
  have hs : a.eval x = .string s := Rep.str_inv hv
  have hlt : i.toNat < s.size := by
    have := (List.getElem?_eq_some_iff.1 hr).1
    simpa using this
  refine ⟨.int .u8 r.toNat, ?_, .int _ _⟩
  have he : s[i.toNat]'hlt = r := by
    obtain ⟨q, hq⟩ := List.getElem?_eq_some_iff.1 hr
    rw [Array.getElem_toList] at hq
    exact hq
  simp [execOp, ho, hs, qg2 h hi, run_index_string w t s k i ht, h0, show i < (s.size : Int) by omega, he]
end
theorem y_app0 {P : Program} {cx : Cx} {o : Oper} {st : St} {t : TypeId} {s x : Operand} {e sz by' : Nat} {z : Value} (ho : o.op = .call { callee := .builtin .append, args := #[s, x], argTypes := #[t, t] })
    (hi : qgE P t = some (e, sz, by', z)) (hs : st.ev s = .c .nil) (hn : NewsA st.hp sz (st.ev x) []) : qd1 P cx o st (.c .nil) := by
  intro L I a w h
  obtain ⟨ad, cap, hx, _, _⟩ := hn.R h (h.ev x)
  have hv := h.ev s
  rw [hs] at hv
  obtain ⟨aas, hsv⟩ := hv
  obtain ⟨i, hu, hie, rfl, rfl, hz0, hzs⟩ := qhC hi
  have hr : (Builtin.append_ #[t, t] o.type #[.slice aas 0 0, .slice ad 0 cap]).run P w = .ok (.slice aas 0 0) w := by
    cases ad <;> cases aas <;>
      simp [Builtin.append_, run_underlying hu, qo4 hie, Builtin.lenOf, Builtin.firstCells, loadCells, loadCellsFrom, storeCells]
  exact ⟨_, qi7 ho hsv hx hr, aas, rfl⟩
section
variable {P : Program} {cx : Cx} {o : Oper} {st : St}
theorem ok_lit0 {t : TypeId} {e sz by' : Nat} {z : Value} (ho : o.op = .buildSlice t 0 #[]) (hi : qgE P t = some (e, sz, by', z)) : OpOK P cx o st (st.put? o.dst (.c .nil)) := by
  intro hd' a w hs K Q hK
  obtain ⟨L, I, h⟩ := hs
  obtain ⟨i, hu, hie, rfl, rfl, hz0, hzs⟩ := qhC hi
  have hrun : (execOp a.eval o).run P w = .ok (.value (.slice (some ⟨w.heap.size, 0, none⟩) 0 0)) (w.alloc (.cells #[] e)) := by
    have hb : (Instr.buildSlice t 0 #[]).run P w = .ok (.slice (some ⟨w.heap.size, 0, none⟩) 0 0) (w.alloc (.cells #[] e)) := by
      simp [Instr.buildSlice, run_underlying hu, sizeOf, typeInfo, hie, Instr.fill, newRow]
      congr 2
      exact Array.eq_empty_of_size_eq_zero (by simp)
    simp [execOp, ho, hb]
  have h' := h.after (I' := I) (w' := w.alloc (.cells #[] e)) ((Below.refl _ _).alloc (Nat.le_refl _) _) (fun _ _ h => h) (fun _ _ h => .inl h) (fun b o hb => by have := h.ib b o hb; simp; omega)
  unfold Oper.wp
  rw [hrun]
  exact hK _ _ (qk4 h' ⟨_, rfl⟩ hd')
end
theorem ok_told {P : Program} {cx : Cx} {o : Oper} {st : St} {j e sz n : Nat} {es : List (List T)} (h : OpOK P cx o st ((st.addB j (.row e sz es 0)).put j (.c (.row j 0 n)))) (hl : es.length = n) (hjn : st.hp.lookup j = none) :
    OpOK P cx o st (st.put j (.c (.t (.sl sz es)))) := by
  subst hl
  intro hd' a w hsim K Q hK
  refine h hd' a w hsim K Q fun a' w' hs' => hK a' w' ?_
  have h1 : ((st.addB j (.row e sz es 0)).put j (.c (.row j 0 es.length))).tm.lookup j = some (.c (.row j 0 es.length)) := by rw [St.put_lookup]; simp
  have h2 := Sim.snap (e := e) (sz := sz) (es := es) (fz := 0) hs' h1 (by show (st.addB j _).hp.lookup j = _; rw [St.addB_lookup, if_pos rfl])
  have h3 : ((es.drop 0).take es.length) = es := by simp
  rw [h3] at h2
  obtain ⟨L, I, h2⟩ := h2
  refine ⟨L, I, h2.sub ?_ ?_ rfl⟩
  · intro k v hv
    rw [St.put_lookup] at hv ⊢
    split at hv
    · rename_i e; subst e; simpa using hv
    · rename_i hne
      rw [if_neg hne]
      show ((st.addB j (.row e sz es 0)).put j (.c (.row j 0 es.length))).tm.lookup k = _
      rw [St.put_lookup, if_neg hne]; exact hv
  · intro k b hb
    have hne : k ≠ j := fun e => by subst e; rw [show (st.put k _).hp.lookup k = st.hp.lookup k from rfl, hjn] at hb; cases hb
    show (((st.addB j (.row e sz es 0)).put j (.c (.row j 0 es.length))).addB j (.row e sz es (max 0 (0 + es.length)))).hp.lookup k = _
    rw [St.addB_lookup, if_neg hne]
    show (st.addB j _).hp.lookup k = _
    rw [St.addB_lookup, if_neg hne]; exact hb
def capOf : V → Option Cap
  | .c (.ptr j k) => some (.ptr j k)
  | .c (.t x) => some (.t x)
  | _ => none
def capsOf : List V → Option (List Cap)
  | [] => some []
  | v :: vs => match capOf v, capsOf vs with
    | some x, some xs => some (x :: xs)
    | _, _ => none
theorem capsOf_spec : ∀ {vs : List V} {xs : List Cap}, capsOf vs = some xs → vs = xs.map capV
  | [], xs, h => by simp only [capsOf] at h; cases h; rfl
  | v :: vs, xs, h => by
    simp only [capsOf] at h
    split at h
    · rename_i x xs' h1 h2
      cases h
      rw [capsOf_spec h2, List.map_cons]
      congr 1
      unfold capOf at h1
      split at h1 <;> cases h1 <;> rfl
    · cases h
def infO (P : Program) (st : St) (o : Oper) : H → Option (Inf × List Prop)
  | .p => match o.op with
    | .alloc t => match o.dst, (P.info? t).bind (·.zero) with
      | some j, some z => if z.cells.all (·.oneCell') then some (⟨[], [j], ⟨some (j, .c (.ptr j 0)), some (j, .var (z.cells.toList.map qnR))⟩⟩, []) else none
      | _, _ => none
    | .box _ x => match o.dst, (st.ev x).cellsL st.hp with
      | some j, some xs => if qnQ (some j) xs then some (⟨rkOf st o, [j], ⟨some (j, .c (.ptr j 0)), some (j, .var xs)⟩⟩, []) else none
      | _, _ => none
    | .store t p x => match o.dst, st.ev p with
      | none, .c (.ptr j k) => match st.hp.lookup j, (st.ev x).cellsL st.hp, (P.info? t).map (·.size) with
        | some (.var cs), some xs, some n => if xs.length = n ∧ k + n ≤ cs.length then some (⟨rkOf st o, [], ⟨none, some (j, .var (qbY cs k xs))⟩⟩, []) else none
        | _, _, _ => none
      | _, _ => none
    | op => (qmL P st.hp st.ev op).map fun v => (⟨rkOf st o, [], ⟨o.dst.map fun t => (t, v), none⟩⟩, [])
  | .ix el => match o.op with
    | .indexAddr t x ix => match st.ev x, st.ev ix, qg4 P t with
      | .c (.t (.sl sz es)), .c (.t (.int _ i)), some sz' => if sz = sz' then some (⟨[], [], ⟨o.dst.map fun t => (t, .c (.ep el 0)), none⟩⟩, [0 ≤ i, es[i.toNat]? = some el]) else none
      | _, _, _ => none
    | _ => none
  | .ir => match o.op with
    | .indexAddr t x ix => match st.ev x, st.ev ix, qg4 P t with
      | .c (.row j off len), .c (.t (.int _ i)), some sz' => match st.hp.lookup j with
        | some (.row _ sz _ _) => if sz = sz' then some (⟨rkOf st o, [], ⟨o.dst.map fun t => (t, .c (.rptr j (off + i.toNat) 0)), none⟩⟩, [0 ≤ i, i < len]) else none
        | _ => none
      | _, _, _ => none
    | _ => none
  | .ld el => match o.op with
    | .load t x => match st.ev x, qqD P t with
      | .c (.rptr j i k), some (false, _) => match st.hp.lookup j, el[k]? with
        | some (.row _ _ es _), some y => some (⟨rkOf st o, [], ⟨o.dst.map fun t => (t, .c (.t y)), none⟩⟩, [es[i]? = some el])
        | _, _ => none
      | .c (.rptr j i k), some (true, n) => match st.hp.lookup j with
        | some (.row _ _ es _) => if ((el.drop k).take n).length = n then some (⟨rkOf st o, [], ⟨o.dst.map fun t => (t, .agg (((el.drop k).take n).map .t)), none⟩⟩, [es[i]? = some el]) else none
        | _ => none
      | _, _ => none
    | _ => none
  | .st el es' => match o.op, o.dst with
    | .store t p x, none => match st.ev p with
      | .c (.rptr j i k) => match st.hp.lookup j, (st.ev x).cellsL st.hp, (P.info? t).map (·.size) with
        | some (.row e sz es fz), some xs, some n => match qqX (fun _ => 0) 0 xs with
          | some ys => if ys.length = n ∧ k + n ≤ sz then some (⟨rkOf st o, [], ⟨none, some (j, .row e sz es' fz)⟩⟩, [es[i]? = some el, es.set i (qbY el k ys) = es', fz ≤ i]) else none
          | none => none
        | _, _, _ => none
      | _ => none
    | _, _ => none
  | .mk zt es' => match o.op, o.dst with
    | .makeSlice t l c, some j => match st.ev l, st.ev c, qgE P t with
      | .c (.t (.int _ n)), .c (.t (.int _ m)), some (e, sz, by', z) => if 0 < sz ∧ 0 < by' ∧ zeroOk z.cells.toList zt = true then
          some (⟨[], [j], ⟨some (j, .c (.row j 0 n.toNat)), some (j, .row e sz es' 0)⟩⟩, [0 ≤ n, n ≤ m, (by' : Int) * m ≤ 140737488355328, List.replicate n.toNat zt = es']) else none
      | _, _, _ => none
    | _, _ => none
  | .lit es => match o.op, o.dst with
    | .buildSlice t len parts, some j => match qgE P t, qrP st parts.toList with
      | some (e, sz, _, z), some qs => match fillA (fun i => some (i * sz, sz)) (((Array.range (len * sz)).map (z.cells[· % z.cells.size]!)).toList.map qnR) qs with
        | some ds => match qqX (fun _ => 0) 0 ds with
          | some fl => if 0 < sz ∧ z.cells.all (·.oneCell') = true ∧ 0 < len ∧ len * sz ≤ 16777216 ∧ es.all (fun x => x.length == sz) = true ∧ es.length = len then
              some (⟨rkOf st o, [j], ⟨some (j, .c (.row j 0 len)), some (j, .row e sz es 0)⟩⟩, [fl = es.flatten]) else none
          | none => none
        | none => none
      | _, _ => none
    | _, _ => none
  | .call hss _ res => match o.op with
    | .call { callee := .value x, args, argTypes := _ } => match st.ev x, argsH st hss args.toList with
      | .c (.t (.fn f)), some ys => if qqT P f then some (⟨[], [], ⟨o.dst.map fun t => (t, res.toV), none⟩⟩, [qcX P f ys res]) else none
      | _, _ => none
    | _ => none
  | .slT l h es' => match o.op with
    | .slice t x lo hi none => match st.ev x, qg4 P t with
      | .c (.t (.sl sz es)), some sz' => match bndP st lo 0 l, bndP st hi es.length h with
        | some p, some q => if sz = sz' then some (⟨[], [], ⟨o.dst.map fun t => (t, .c (.t (.sl sz es'))), none⟩⟩, [p, q, l ≤ h, h ≤ es.length, (es.take h).drop l = es']) else none
        | _, _ => none
      | _, _ => none
    | _ => none
  | .slR l h off' len' => match o.op with
    | .slice t x lo hi none => match st.ev x, qg4 P t with
      | .c (.row j off len), some sz' => match st.hp.lookup j, bndP st lo 0 l, bndP st hi len h with
        | some (.row _ sz _ _), some p, some q => if sz = sz' then some (⟨rkOf st o, [], ⟨o.dst.map fun t => (t, .c (.row j off' len')), none⟩⟩, [p, q, l ≤ h, h ≤ len, l = 0 ∨ l < len, off + l = off', h - l = len']) else none
        | _, _, _ => none
      | .c .nil, some _ => match bndP st lo 0 0, bndP st hi 0 0 with
        | some p, some q => some (⟨[], [], ⟨o.dst.map fun t => (t, .c .nil), none⟩⟩, [p, q])
        | _, _ => none
      | _, _ => none
    | _ => none
  | .sl0 => match o.op with
    | .slice t x none (some y) (some z) => match st.ev x, st.ev y, st.ev z, qg4 P t with
      | .c (.t (.sl sz _)), .c (.t (.int _ n)), .c (.t (.int _ m)), some sz' => if sz = sz' ∧ n = 0 ∧ m = 0 then some (⟨[], [], ⟨o.dst.map fun t => (t, .c .nil), none⟩⟩, []) else none
      | _, _, _, _ => none
    | _ => none
  | .clip l h m off' len' => match o.op with
    | .slice t x lo (some hi) (some mx) => match st.ev x, qg4 P t with
      | .c (.row j off len), some sz' => match st.hp.lookup j, bndP st lo 0 l, bndP st (some hi) len h, bndP st (some mx) 0 m with
        | some (.row _ sz _ _), some p, some q, some r => if sz = sz' then some (⟨rkOf st o, [], ⟨o.dst.map fun t => (t, .c (.clip j off' len')), none⟩⟩, [p, q, r, l ≤ h, h ≤ m, m ≤ len, l = 0 ∨ l < m, off + l = off', h - l = len']) else none
        | _, _, _, _ => none
      | _, _ => none
    | _ => none
  | .appN es' => match o.op, o.dst with
    | .call { callee := .builtin .append, args, argTypes }, some j => match args.toList, argTypes.toList with
      | [s, x], [t, t'] => match st.ev s, qgE P t with
        | .c .nil, some (e, sz, by', _) => match newsOf st.hp sz (st.ev x) with
          | some es => if t = t' ∧ 0 < sz then some (⟨rkOf st o, [j], ⟨some (j, .c (.row j 0 es'.length)), some (j, .row e sz es' 0)⟩⟩, [es = es', 0 < es'.length, es'.length * by' ≤ 140737488355328, es'.length ≤ maxLen]) else none
          | none => none
        | _, _ => none
      | _, _ => none
    | _, _ => none
  | .ln n => match o.op with
    | .call { callee := .builtin .len, args, argTypes } => match args.toList, argTypes.toList with
      | [x], [t] => match st.ev x with
        | .c (.t (.sl _ es)) => if (qg4 P t).isSome then some (⟨[], [], ⟨o.dst.map fun d => (d, intV .i64 n), none⟩⟩, [(es.length : Int) = n]) else none
        | _ => none
      | _, _ => none
    | _ => none
  | .dv => match o.op with
    | .binOp op _ x y _ => match st.ev x, st.ev y with
      | .c (.t (.int k m)), .c (.t (.int k' n)) => match op with
        | .quo => if k = k' then some (⟨[], [], ⟨o.dst.map fun d => (d, intV k (k.wrap (m.tdiv n))), none⟩⟩, [n ≠ 0]) else none
        | .rem => if k = k' then some (⟨[], [], ⟨o.dst.map fun d => (d, intV k (m.tmod n)), none⟩⟩, [n ≠ 0]) else none
        | .shl => some (⟨[], [], ⟨o.dst.map fun d => (d, intV k (qgQ k m n)), none⟩⟩, [0 ≤ n])
        | .shr => some (⟨[], [], ⟨o.dst.map fun d => (d, intV k (qdG k m n)), none⟩⟩, [0 ≤ n])
        | _ => none
      | _, _ => none
    | _ => none
  | .sx r => match o.op with
    | .index t x ix => match st.ev x, st.ev ix with
      | .c (.t (.str s)), .c (.t (.int _ i)) => if isStr P t = true then some (⟨[], [], ⟨o.dst.map fun d => (d, intV .u8 r), none⟩⟩, [0 ≤ i, (s.data.toList.map fun c => (c.toNat : Int))[i.toNat]? = some r]) else none
      | _, _ => none
    | _ => none
  | .cp es2 es' n => match o.op with
    | .call { callee := .builtin .copy, args, argTypes } => match args.toList, argTypes.toList with
      | [d, x], [t, _] => match st.ev d, qgE P t with
        | .c (.row j off len), some (e, 1, _, _) => match st.hp.lookup j, newsOf st.hp 1 (st.ev x) with
          | some (.row e' 1 es 0), some new => if e = e' then some (⟨rkOf st o, [], ⟨o.dst.map fun q => (q, intV .i64 n), some (j, .row e 1 es' 0)⟩⟩, [new = es2, qbY es off (es2.take (min es2.length len)) = es', ((min es2.length len : Nat) : Int) = n]) else none
          | _, _ => none
        | _, _ => none
      | _, _ => none
    | _ => none
  | .slM l h m es' => match o.op with
    | .slice t x lo (some hi) (some mx) => match st.ev x, qg4 P t with
      | .c (.t (.sl sz es)), some sz' => match bndP st lo 0 l, bndP st (some hi) es.length h, bndP st (some mx) 0 m with
        | some p, some q, some r => if sz = sz' then some (⟨[], [], ⟨o.dst.map fun t => (t, .c (.t (.sl sz es'))), none⟩⟩, [p, q, r, l ≤ h, h ≤ m, m ≤ es.length, (es.take h).drop l = es']) else none
        | _, _, _ => none
      | _, _ => none
    | _ => none
  | .litT es => match o.op, o.dst with
    | .buildSlice t len parts, some j => match qgE P t, qrP st parts.toList, st.hp.lookup j with
      | some (_, sz, _, z), some qs, none => match fillA (fun i => some (i * sz, sz)) (((Array.range (len * sz)).map (z.cells[· % z.cells.size]!)).toList.map qnR) qs with
        | some ds => match qqX (fun _ => 0) 0 ds with
          | some fl => if 0 < sz ∧ z.cells.all (·.oneCell') = true ∧ 0 < len ∧ len * sz ≤ 16777216 ∧ es.all (fun x => x.length == sz) = true ∧ es.length = len then
              some (⟨j :: rkOf st o, [j], ⟨some (j, .c (.t (.sl sz es))), none⟩⟩, [fl = es.flatten]) else none
          | none => none
        | none => none
      | _, _, _ => none
    | _, _ => none
  | .clo => match o.op with
    | .makeFunc (.func f) first captured => match capsOf (captured.toList.map st.ev) with
      | some caps => if first = #[] then some (⟨[], [], ⟨o.dst.map fun t => (t, .c (.fn f caps)), none⟩⟩, []) else none
      | none => none
    | _ => none
  | .app0 => match o.op with
    | .call { callee := .builtin .append, args, argTypes } => match args.toList, argTypes.toList with
      | [s, x], [t, t'] => match st.ev s, qgE P t with
        | .c .nil, some (_, sz, _, _) => match newsOf st.hp sz (st.ev x) with
          | some new => if t = t' then some (⟨rkOf st o, [], ⟨o.dst.map fun q => (q, .c .nil), none⟩⟩, [new = []]) else none
          | none => none
        | _, _ => none
      | _, _ => none
    | _ => none
  | .pk b => match o.op with
    | .pick c x y => match st.ev c with
      | .c (.t (.bool b')) => some (⟨[], [], ⟨o.dst.map fun t => (t, match b with | true => st.ev x | false => st.ev y), none⟩⟩, [b' = b])
      | _ => none
    | _ => none
  | .ia n => match o.op with
    | .indexAddr t x ix => match st.ev x, st.ev ix, arrSz P t with
      | .c (.ptr j q), .c (.t (.int _ i)), some (m, sz) => if n < m ∧ (st.hp.lookup j).isSome then some (⟨rkOf st o, [], ⟨o.dst.map fun t => (t, .c (.ptr j (q + n * sz))), none⟩⟩, [i = (n : Int)]) else none
      | .c (.ep el q), .c (.t (.int _ i)), some (m, sz) => if n < m then some (⟨rkOf st o, [], ⟨o.dst.map fun t => (t, .c (.ep el (q + n * sz))), none⟩⟩, [i = (n : Int)]) else none
      | .c (.rptr j r q), .c (.t (.int _ i)), some (m, sz) => match st.hp.lookup j with
        | some (.row ..) => if n < m then some (⟨rkOf st o, [], ⟨o.dst.map fun t => (t, .c (.rptr j r (q + n * sz))), none⟩⟩, [i = (n : Int)]) else none
        | _ => none
      | _, _, _ => none
    | _ => none
  | .lit0 => match o.op with
    | .buildSlice t 0 parts => match qgE P t with
      | some _ => if parts = #[] then some (⟨[], [], ⟨o.dst.map fun q => (q, .c .nil), none⟩⟩, []) else none
      | none => none
    | _ => none
  | _ => none
section
variable {P : Program} {cx : Cx} {o : Oper} {st : St}
theorem qmG {σ : St} (h : AgreeB st σ (rkOf st o)) {x : Operand} (hx : x ∈ o.op.operands.toList) {j : Nat} (hj : j ∈ (st.ev x).keys) : σ.hp.lookup j = st.hp.lookup j :=
  qm0 h j (by simp only [rkOf, List.mem_flatMap]; exact ⟨x, hx, hj⟩)
theorem newsOf_congr {hp hp' : List (Nat × Blk)} {sz : Nat} {v : V} (h : ∀ j ∈ v.keys, hp'.lookup j = hp.lookup j) : newsOf hp' sz v = newsOf hp sz v := by
  cases v with
  | c x =>
    cases x with
    | row j off len => simp only [newsOf]; rw [h j (by simp [V.keys, C.keys])]
    | clip j off len => simp only [newsOf]; rw [h j (by simp [V.keys, C.keys])]
    | t y => cases y <;> rfl
    | _ => rfl
  | agg => rfl
  | tup => rfl
theorem eff_any {v : V} {rk : List Nat} {u : Upd} (hu : u = ⟨o.dst.map fun t => (t, v), none⟩) (h : ∀ σ, AgreeEv st σ o.op.operands.toList → AgreeB st σ rk → qd1 P cx o σ v) : Eff P cx o st rk [] u := by
  subst hu; exact qhV h
theorem infO_ok : ∀ {h : H} {i : Inf} {φs : List Prop}, infO P st o h = some (i, φs) → AllP φs → Eff P cx o st i.rk i.fresh i.u
  | .p, i, φs, h, _ => by
    simp only [infO] at h
    split at h
    · rename_i t hop
      split at h
      · rename_i j z hd hz
        split at h
        · rename_i hc; cases h; exact eff_alloc hop hd hz hc rfl
        · cases h
      · cases h
    · rename_i t x hop
      split at h
      · rename_i j xs hd hx
        split at h
        · rename_i hc; cases h; exact eff_box hop hd hx (rkOf_ok st o) hc
        · cases h
      · cases h
    · rename_i t p x hop
      split at h
      · rename_i j k hd hp
        split at h
        · rename_i cs xs n hj hx hn
          split at h
          · rename_i hc
            cases h
            exact eff_store hop hd hp hj hx hc.1 hn hc.2 (rkOf_ok st o)
          · cases h
        · cases h
      · cases h
    · obtain ⟨v, h1, h2⟩ := Option.map_eq_some_iff.1 h
      cases h2
      exact eff_pure h1 (rkOf_ok st o)
  | .ix el, i, φs, h, hφ => by
    simp only [infO] at h
    split at h
    · rename_i t x ix hop
      split at h
      · rename_i sz es k n sz' hx hi hs
        split at h
        · rename_i e; subst e
          cases h
          obtain ⟨h0, he, _⟩ := hφ
          exact qhV fun σ hev _ => y_indexI hop hs ((qaY hev x (by rw [hop]; simp [Op.operands])).trans hx) ((qaY hev ix (by rw [hop]; simp [Op.operands])).trans hi) h0 he
        · cases h
      · cases h
    · cases h
  | .ir, i, φs, h, hφ => by
    simp only [infO] at h
    split at h
    · rename_i t x ix hop
      split at h
      · rename_i j off len k n sz' hx hi hs
        split at h
        · rename_i hj
          split at h
          · rename_i e; subst e
            cases h
            obtain ⟨h0, h1, _⟩ := hφ
            have hxo : x ∈ o.op.operands.toList := by rw [hop]; simp [Op.operands]
            exact qhV fun σ hev hb => y_index hop hs ((qaY hev x hxo).trans hx) ((qmG hb hxo (by rw [hx]; simp [V.keys, C.keys])).trans hj) ((qaY hev ix (by rw [hop]; simp [Op.operands])).trans hi) h0 h1
          · cases h
        · cases h
      · cases h
    · cases h
  | .ld el, i, φs, h, hφ => by
    simp only [infO] at h
    split at h
    · rename_i t x hop
      have hxo : x ∈ o.op.operands.toList := by rw [hop]; simp [Op.operands]
      split at h
      · rename_i j q k n hx hl
        split at h
        · rename_i y hj hy
          cases h
          exact qhV fun σ hev hb => y_loadR hop hl ((qaY hev x hxo).trans hx) ((qmG hb hxo (by rw [hx]; simp [V.keys, C.keys])).trans hj) hφ.1 hy
        · cases h
      · rename_i j q k n hx hl
        split at h
        · rename_i hj
          split at h
          · rename_i hn
            cases h
            exact qhV fun σ hev hb => y_loadRA hop hl ((qaY hev x hxo).trans hx) ((qmG hb hxo (by rw [hx]; simp [V.keys, C.keys])).trans hj) hφ.1 rfl hn
          · cases h
        · cases h
      · cases h
    · cases h
  | .st el es', i, φs, h, hφ => by
    simp only [infO] at h
    split at h
    · rename_i t p x hop hd
      split at h
      · rename_i j q k hp
        split at h
        · rename_i e sz es fz xs n hj hx hn
          split at h
          · rename_i ys hy
            split at h
            · rename_i hc
              cases h
              obtain ⟨h1, h2, h3, _⟩ := hφ
              subst h2
              exact eff_storeR _ hop hd hp hj h1 hx hy hc.1 hn hc.2 h3 (rkOf_ok st o)
            · cases h
          · cases h
        · cases h
      · cases h
    · cases h
  | .mk zt es', i, φs, h, hφ => by
    simp only [infO] at h
    split at h
    · rename_i t l c j hop hd
      split at h
      · rename_i kl n kc m e sz by' z hl hc hi
        split at h
        · rename_i hh
          cases h
          obtain ⟨h0, h1, h2, h3, _⟩ := hφ
          subst h3
          obtain ⟨h4, h5, h6⟩ := hh
          intro σ hev _ hf
          have hm : m ≤ (by' : Int) * m := by
            have h7 : (1 : Int) ≤ (by' : Int) := by omega
            have := Int.mul_le_mul_of_nonneg_right h7 (show (0 : Int) ≤ m by omega)
            omega
          exact ok_make hop hd ((qaY hev l (by rw [hop]; simp [Op.operands])).trans hl) ((qaY hev c (by rw [hop]; simp [Op.operands])).trans hc) h0 h1 (by omega) (by omega) hi h4 h6 (hf j (by simp))
        · cases h
      · cases h
    · cases h
  | .lit es, i, φs, h, hφ => by
    simp only [infO] at h
    split at h
    · rename_i t len parts j hop hd
      split at h
      · rename_i e sz by' z qs hi hq
        split at h
        · rename_i ds hfl
          split at h
          · rename_i fl htr
            split at h
            · rename_i hc
              cases h
              obtain ⟨h1, h2, h3, h4, h5, h6⟩ := hc
              have hfe := hφ.1
              subst hfe
              exact eff_lit _ hop hd hi h1 h2 h3 h4 hq hfl htr (fun x hx => by simpa using List.all_eq_true.1 h5 x hx) h6 (rkOf_ok st o)
            · cases h
          · cases h
        · cases h
      · cases h
    · cases h
  | .call hss ys res, i, φs, h, hφ => by
    simp only [infO] at h
    split at h
    · rename_i x args tys hop
      split at h
      · rename_i f ys hx ha
        split at h
        · rename_i hc
          cases h
          have hop' : o.op = .call { callee := .value x, args := args.toList.toArray, argTypes := tys } := by simpa using hop
          exact eff_call hop' hx hc ha hφ.1
        · cases h
      · cases h
    · cases h
  | .slT l hh es', i, φs, h, hφ => by
    simp only [infO] at h
    split at h
    · rename_i t x lo hi hop
      split at h
      · rename_i sz es sz' hx hs
        split at h
        · rename_i p q hp hq
          split at h
          · rename_i e; subst e
            cases h
            obtain ⟨h1, h2, h3, h4, h5, _⟩ := hφ
            subst h5
            exact qhV fun σ hev _ => y_sliceT hop hs ((qaY hev x (by rw [hop]; simp [Op.operands])).trans hx)
              (qkR hp h1 fun y hy => qaY hev y (by rw [hop]; subst hy; simp [Op.operands]))
              (qkR hq h2 fun y hy => qaY hev y (by rw [hop]; subst hy; simp [Op.operands])) (.inl rfl) (m := 0) h3 h4
          · cases h
        · cases h
      · cases h
    · cases h
  | .slR l hh off' len', i, φs, h, hφ => by
    simp only [infO] at h
    split at h
    · rename_i t x lo hi hop
      have hxo : x ∈ o.op.operands.toList := by rw [hop]; simp [Op.operands]
      split at h
      · rename_i j off len sz' hx hs
        split at h
        · rename_i p q hj hp hq
          split at h
          · rename_i e; subst e
            cases h
            obtain ⟨h1, h2, h3, h4, h5, h6, h7, _⟩ := hφ
            subst h6; subst h7
            exact qhV fun σ hev hb => y_sliceR hop hs ((qaY hev x hxo).trans hx) ((qmG hb hxo (by rw [hx]; simp [V.keys, C.keys])).trans hj)
              (qkR hp h1 fun y hy => qaY hev y (by rw [hop]; subst hy; simp [Op.operands]))
              (qkR hq h2 fun y hy => qaY hev y (by rw [hop]; subst hy; simp [Op.operands])) h3 h4 h5
          · cases h
        · cases h
      · rename_i sz' hx hs
        split at h
        · rename_i p q hp hq
          cases h
          obtain ⟨h1, h2, _⟩ := hφ
          exact qhV fun σ hev hb => y_sliceN hop hs ((qaY hev x hxo).trans hx)
              (qkR hp h1 fun y hy => qaY hev y (by rw [hop]; subst hy; simp [Op.operands]))
              (qkR hq h2 fun y hy => qaY hev y (by rw [hop]; subst hy; simp [Op.operands]))
        · cases h
      · cases h
    · cases h
  | .sl0, i, φs, h, _ => by
    simp only [infO] at h
    split at h
    · rename_i t x y z hop
      split at h
      · rename_i sz es k n k' m sz' hx hy hz hs
        split at h
        · rename_i hc
          obtain ⟨rfl, rfl, rfl⟩ := hc
          cases h
          exact qhV fun σ hev _ => y_slice0 hop hs ((qaY hev x (by rw [hop]; simp [Op.operands])).trans hx) ((qaY hev y (by rw [hop]; simp [Op.operands])).trans hy) ((qaY hev z (by rw [hop]; simp [Op.operands])).trans hz)
        · cases h
      · cases h
    · cases h
  | .clip l hh m off' len', i, φs, h, hφ => by
    simp only [infO] at h
    split at h
    · rename_i t x lo hi mx hop
      have hxo : x ∈ o.op.operands.toList := by rw [hop]; simp [Op.operands]
      split at h
      · rename_i j off len sz' hx hs
        split at h
        · rename_i p q r hj hp hq hr
          split at h
          · rename_i e; subst e
            cases h
            obtain ⟨h1, h2, h3, h4, h5, h6, h7, h8, h9, _⟩ := hφ
            subst h8; subst h9
            exact qhV fun σ hev hb => y_sliceRm hop hs ((qaY hev x hxo).trans hx) ((qmG hb hxo (by rw [hx]; simp [V.keys, C.keys])).trans hj)
              (qkR hp h1 fun y hy => qaY hev y (by rw [hop]; subst hy; simp [Op.operands]))
              (qkR hq h2 fun y hy => qaY hev y (by rw [hop]; cases hy; simp [Op.operands])) rfl rfl
              (qkR hr h3 fun y hy => qaY hev y (by rw [hop]; cases hy; simp [Op.operands])) h4 h5 h6 h7
          · cases h
        · cases h
      · cases h
    · cases h
  | .appN es', i, φs, h, hφ => by
    simp only [infO] at h
    split at h
    · rename_i args tys j hop hd
      split at h
      · rename_i s x t t' ha ht
        have ha' : args = #[s, x] := by rw [← Array.toArray_toList (xs := args), ha]
        have ht' : tys = #[t, t'] := by rw [← Array.toArray_toList (xs := tys), ht]
        subst ha'; subst ht'
        split at h
        · rename_i e sz by' z hs hi
          split at h
          · rename_i es hn
            split at h
            · rename_i hc
              obtain ⟨rfl, hsz⟩ := hc
              cases h
              obtain ⟨h1, h2, h3, h4, _⟩ := hφ
              subst h1
              intro σ hev hb hf
              have hso : s ∈ o.op.operands.toList := by rw [hop]; simp [Op.operands, Call.operands]
              have hxo : x ∈ o.op.operands.toList := by rw [hop]; simp [Op.operands, Call.operands]
              refine ok_app_nil hop hd hi hsz ((qaY hev s hso).trans hs) (qt6 ?_) h2 h3 h4 (hf j (by simp))
              rw [qaY hev x hxo, newsOf_congr fun k hk => qmG hb hxo hk]
              exact hn
            · cases h
          · cases h
        · cases h
      · cases h
    · cases h
  | .ln n, i, φs, h, hφ => by
    simp only [infO] at h
    split at h
    · rename_i args tys hop
      split at h
      · rename_i x t ha ht
        have ha' : args = #[x] := by rw [← Array.toArray_toList (xs := args), ha]
        have ht' : tys = #[t] := by rw [← Array.toArray_toList (xs := tys), ht]
        subst ha'; subst ht'
        split at h
        · rename_i sz es hx
          split at h
          · rename_i hs
            obtain ⟨sz', hs⟩ := Option.isSome_iff_exists.1 hs
            cases h
            rw [← hφ.1]
            exact qhV fun σ hev _ => y_lenT hop hs ((qaY hev x (by rw [hop]; simp [Op.operands, Call.operands])).trans hx)
          · cases h
        · cases h
      · cases h
    · cases h
  | .dv, i, φs, h, hφ => by
    simp only [infO] at h
    split at h
    · rename_i op t x y t' hop
      have hxo : x ∈ o.op.operands.toList := by rw [hop]; simp [Op.operands]
      have hyo : y ∈ o.op.operands.toList := by rw [hop]; simp [Op.operands]
      split at h
      · rename_i k m k' n hx hy
        split at h
        · split at h
          · rename_i e; subst e; cases h
            exact qhV fun σ hev _ => y_quo hop ((qaY hev x hxo).trans hx) ((qaY hev y hyo).trans hy) hφ.1
          · cases h
        · split at h
          · rename_i e; subst e; cases h
            exact qhV fun σ hev _ => y_rem hop ((qaY hev x hxo).trans hx) ((qaY hev y hyo).trans hy) hφ.1
          · cases h
        · cases h
          exact qhV fun σ hev _ => y_shl hop ((qaY hev x hxo).trans hx) ((qaY hev y hyo).trans hy) hφ.1
        · cases h
          exact qhV fun σ hev _ => y_shr hop ((qaY hev x hxo).trans hx) ((qaY hev y hyo).trans hy) hφ.1
        · cases h
      · cases h
    · cases h
  | .sx r, i, φs, h, hφ => by
    simp only [infO] at h
    split at h
    · rename_i t x ix hop
      split at h
      · rename_i s k n hx hi
        split at h
        · rename_i ht
          cases h
          obtain ⟨h0, h1, _⟩ := hφ
          rw [List.getElem?_map, Option.map_eq_some_iff] at h1
          obtain ⟨c, h2, rfl⟩ := h1
          exact qhV fun σ hev _ => y_indexStr hop (isStr_spec ht) ((qaY hev x (by rw [hop]; simp [Op.operands])).trans hx) ((qaY hev ix (by rw [hop]; simp [Op.operands])).trans hi) h0 h2
        · cases h
      · cases h
    · cases h
  | .cp es2 es' n, i, φs, h, hφ => by
    simp only [infO] at h
    split at h
    · rename_i args tys hop
      split at h
      · rename_i d x t t' ha ht
        have ha' : args = #[d, x] := by rw [← Array.toArray_toList (xs := args), ha]
        have ht' : tys = #[t, t'] := by rw [← Array.toArray_toList (xs := tys), ht]
        subst ha'; subst ht'
        split at h
        · rename_i j off len e by' z hs hi
          split at h
          · rename_i e' es new hj hn
            split at h
            · rename_i e; subst e
              cases h
              obtain ⟨h1, h2, h3, _⟩ := hφ
              subst h1; subst h2; subst h3
              intro σ hev hb _
              have hdo : d ∈ o.op.operands.toList := by rw [hop]; simp [Op.operands, Call.operands]
              have hxo : x ∈ o.op.operands.toList := by rw [hop]; simp [Op.operands, Call.operands]
              have hn' := newsOf_congr (hp := st.hp) (hp' := σ.hp) (sz := 1) (v := st.ev x) (fun k hk => qmG hb hxo hk)
              have := ok_copy (cx := cx) (st := σ) hop hi ((qaY hev d hdo).trans hs) ((qmG hb hdo (by rw [hs]; simp [V.keys, C.keys])).trans hj) (qt6 (by rw [qaY hev x hxo, hn']; exact hn))
              cases hd : o.dst with
              | none => rw [hd] at this; exact this
              | some q => rw [hd] at this; exact this
            · cases h
          · cases h
        · cases h
      · cases h
    · cases h
  | .slM l hh m es', i, φs, h, hφ => by
    simp only [infO] at h
    split at h
    · rename_i t x lo hi mx hop
      split at h
      · rename_i sz es sz' hx hs
        split at h
        · rename_i p q r hp hq hr
          split at h
          · rename_i e; subst e
            cases h
            obtain ⟨h1, h2, h3, h4, h5, h6, h7, _⟩ := hφ
            subst h7
            exact qhV fun σ hev _ => y_sliceT hop hs ((qaY hev x (by rw [hop]; simp [Op.operands])).trans hx)
              (qkR hp h1 fun y hy => qaY hev y (by rw [hop]; subst hy; simp [Op.operands]))
              (qkR hq h2 fun y hy => qaY hev y (by rw [hop]; cases hy; simp [Op.operands]))
              (.inr ⟨rfl, rfl, qkR hr h3 fun y hy => qaY hev y (by rw [hop]; cases hy; simp [Op.operands]), h5, h6⟩) h4 (by omega)
          · cases h
        · cases h
      · cases h
    · cases h
  | .litT es, i, φs, h, hφ => by
    simp only [infO] at h
    split at h
    · rename_i t len parts j hop hd
      split at h
      · rename_i e sz by' z qs hi hq hjn
        split at h
        · rename_i ds hfl
          split at h
          · rename_i fl htr
            split at h
            · rename_i hc
              cases h
              obtain ⟨h1, h2, h3, h4, h5, h6⟩ := hc
              have hfe := hφ.1
              subst hfe
              intro σ hev hb hf
              have he := eff_lit (cx := cx) _ hop hd hi h1 h2 h3 h4 hq hfl htr (fun x hx => by simpa using List.all_eq_true.1 h5 x hx) h6 (rkOf_ok st o) σ hev hb.2 hf
              exact ok_told he h6 (hb.1.trans hjn)
            · cases h
          · cases h
        · cases h
      · cases h
    · cases h
  | .clo, i, φs, h, _ => by
    simp only [infO] at h
    split at h
    · rename_i f first captured hop
      split at h
      · rename_i caps hc
        split at h
        · rename_i e; subst e
          cases h
          refine qhV fun σ hev _ => y_closure hop ?_
          rw [← capsOf_spec hc]
          apply List.map_congr_left
          intro x hx
          exact qaY hev x (by rw [hop]; simp [Op.operands]; exact Array.mem_toList_iff.1 hx)
        · cases h
      · cases h
    · cases h
  | .app0, i, φs, h, hφ => by
    simp only [infO] at h
    split at h
    · rename_i args tys hop
      split at h
      · rename_i s x t t' ha ht
        have ha' : args = #[s, x] := by rw [← Array.toArray_toList (xs := args), ha]
        have ht' : tys = #[t, t'] := by rw [← Array.toArray_toList (xs := tys), ht]
        subst ha'; subst ht'
        split at h
        · rename_i e sz by' z hs hi
          split at h
          · rename_i new hn
            split at h
            · rename_i e; subst e
              cases h
              have h1 := hφ.1
              subst h1
              have hso : s ∈ o.op.operands.toList := by rw [hop]; simp [Op.operands, Call.operands]
              have hxo : x ∈ o.op.operands.toList := by rw [hop]; simp [Op.operands, Call.operands]
              exact qhV fun σ hev hb => y_app0 hop hi ((qaY hev s hso).trans hs) (qt6 (by rw [qaY hev x hxo, newsOf_congr fun k hk => qmG hb hxo hk]; exact hn))
            · cases h
          · cases h
        · cases h
      · cases h
    · cases h
  | .pk b, i, φs, h, hφ => by
    simp only [infO] at h
    split at h
    · rename_i c x y hop
      split at h
      · rename_i b' hc
        cases h
        obtain ⟨rfl, _⟩ := hφ
        have e1 : c ∈ o.op.operands.toList := by rw [hop]; simp [Op.operands]
        have e2 : x ∈ o.op.operands.toList := by rw [hop]; simp [Op.operands]
        have e3 : y ∈ o.op.operands.toList := by rw [hop]; simp [Op.operands]
        refine qhV fun σ hev _ => ?_
        cases b' with
        | true => exact y_pick (b := true) hop ((qaY hev c e1).trans hc) (qaY hev x e2)
        | false => exact y_pick (b := false) hop ((qaY hev c e1).trans hc) (qaY hev y e3)
      · cases h
    · cases h
  | .ia n, i, φs, h, hφ => by
    simp only [infO] at h
    split at h
    · rename_i t x ix hop
      have hxo : x ∈ o.op.operands.toList := by rw [hop]; simp [Op.operands]
      have hio : ix ∈ o.op.operands.toList := by rw [hop]; simp [Op.operands]
      split at h
      · rename_i j q k m n' sz hx hi hs
        split at h
        · rename_i hc
          cases h
          obtain ⟨rfl, _⟩ := hφ
          refine qhV fun σ hev hb => ?_
          have hj := qmG hb hxo (j := j) (by rw [hx]; simp [V.keys, C.keys])
          have := y_indexA (cx := cx) (st := σ) hop hs ((qaY hev x hxo).trans hx) (by rw [hj]; exact hc.2) ((qaY hev ix hio).trans hi) (by omega) (by omega)
          simpa using this
        · cases h
      · rename_i el q k m n' sz hx hi hs
        split at h
        · rename_i hc
          cases h
          obtain ⟨rfl, _⟩ := hφ
          refine qhV fun σ hev hb => ?_
          have := y_indexAI (cx := cx) (st := σ) hop hs ((qaY hev x hxo).trans hx) ((qaY hev ix hio).trans hi) (by omega) (by omega)
          simpa using this
        · cases h
      · rename_i j r q k m n' sz hx hi hs
        split at h
        · rename_i hj
          split at h
          · rename_i hc
            cases h
            obtain ⟨rfl, _⟩ := hφ
            refine qhV fun σ hev hb => ?_
            have hj' := qmG hb hxo (j := j) (by rw [hx]; simp [V.keys, C.keys])
            have := y_indexAR (cx := cx) (st := σ) hop hs ((qaY hev x hxo).trans hx) (hj'.trans hj) ((qaY hev ix hio).trans hi) (by omega) (by omega)
            simpa using this
          · cases h
        · cases h
      · cases h
    · cases h
  | .lit0, i, φs, h, _ => by
    simp only [infO] at h
    split at h
    · rename_i t parts hop
      split at h
      · rename_i x hi
        split at h
        · rename_i e; subst e
          cases h
          obtain ⟨e, sz, by', z⟩ := x
          intro σ _ _ _
          rw [app_dst]
          exact ok_lit0 hop hi
        · cases h
      · cases h
    · cases h
end
end Go.Am
namespace Go.Am
open Go.RowKit (Below)
def PostN (I : Nat → Nat → Prop) (w : World) (e sz : Nat) (r : Option (List (List T))) (en : Ending) (w' : World) : Prop :=
  Below w.heap.size w w' ∧ ∃ I' : Nat → Nat → Prop, (∀ b o, I b o → I' b o) ∧ (∀ b o, I' b o → I b o ∨ w.heap.size ≤ b) ∧ (∀ b o, I' b o → b < w'.heap.size) ∧
      match r with
      | none => ∃ ad, en = .returned (.slice ad 0 0)
      | some es => ∃ b cap c, en = .returned (.slice (some ⟨b, 0, none⟩) es.length cap) ∧ w.heap.size ≤ b ∧ (∀ o, ¬ I' b o) ∧ 0 < sz ∧ es.length ≤ cap ∧ cap ≤ maxLen ∧ (∀ x ∈ es, x.length = sz) ∧
          w'.heap[b]? = some (.cells c e (0, 0)) ∧ c.size = cap * sz ∧ ∀ i k x t, es[i]? = some x → x[k]? = some t → ∃ v, c[i * sz + k]? = some v ∧ Rep w' I' v t
def HoldsN (P : Program) (f : FuncId) (args : List TV) (e sz : Nat) (r : Option (List (List T))) : Prop :=
  ∀ (I : Nat → Nat → Prop) (w : World) (vs : List Value), (∀ b o, I b o → b < w.heap.size) → TVRs w I vs args → Calls P f vs.toArray w (PostN I w e sz r)
def EndsN (P : Program) (f : FuncId) (e sz : Nat) (r : Option (List (List T))) (en : Exit) (s : St) : Prop :=
  (en = .ret ∨ en = .normal) ∧ match r with
    | none => endV P f s = some (.c .nil)
    | some es => ∃ j es0, endV P f s = some (.c (.row j 0 es.length)) ∧ s.hp.lookup j = some (.row e sz es0 0) ∧ es0.take es.length = es
section
variable {P : Program} {cx : Cx} {o : Oper} {st : St} {L : Loc} {I : Nat → Nat → Prop} {a : Act} {w : World}
theorem holdsN_of {f : FuncId} {n e sz : Nat} {args : List TV} {r : Option (List (List T))} (hok : okFn P f n = true) (hl : args.length ≤ n)
    (h : ∀ cx : Cx, cx.n = n → AW P cx (codeOf P f) (St.init args) (EndsN P f e sz r)) : HoldsN P f args e sz r := by
  unfold okFn at hok
  split at hok
  · rename_i fn hfn
    simp only [Bool.and_eq_true, beq_iff_eq] at hok
    obtain ⟨c, hc⟩ := Option.isSome_iff_exists.1 hok.1
    have hbody : codeOf P f = c := by unfold codeOf; rw [hfn]; show fn.body.getD .skip = c; rw [hc]; rfl
    rw [hbody] at h
    have hn := hok.2
    intro I w vs hI hvs
    refine calls_of_wp hfn hc ?_
    let cx : Cx := ⟨w, I, [], n⟩
    have hlen : vs.length = args.length := by have := VRs.length hvs; simpa using this
    have hsim : Sim cx (St.init args) { tmps := vs.toArray ++ Array.replicate (fn.ntmps - vs.toArray.size) undef, defers := [] } w := by
      refine ⟨L0, I, ?_⟩
      exact {
        below := Below.refl _ _
        i0 := fun _ _ h => h
        i1 := fun _ _ h => .inl h
        ib := hI
        inj := fun j j' b b' h => by simp [St.init] at h
        hp := fun j b h => by simp [St.init] at h
        tm := fun t v ht => by
          obtain ⟨_, x, h1, rfl⟩ := idxTM_lookup args 0 t v ht
          simp only [Nat.sub_zero] at h1
          have hx : (args.map TV.toV)[t]? = some x.toV := by simp [h1]
          obtain ⟨u, g1, g2⟩ := VRs.get hvs hx
          have htl : t < vs.length := (List.getElem?_eq_some_iff.1 g1).1
          refine ⟨?_, by show t < n; omega⟩
          have : (vs.toArray ++ Array.replicate (fn.ntmps - vs.toArray.size) undef).getD t undef = u := by
            have e1 : (vs.toArray ++ Array.replicate (fn.ntmps - vs.toArray.size) undef)[t]? = some u := by
              rw [Array.getElem?_append_left (by simpa using htl)]; simpa using g1
            simp only [Array.getD_eq_getD_getElem?, e1, Option.getD_some]
          rw [this]
          exact VR.reT g2
        ex := trivial
        defers := rfl
        size := by simp [hn]; show _ = n; omega }
    refine wp_mono (h cx rfl _ w hsim) ?_
    intro en a' w' ⟨s, hq, L, I', hs⟩
    obtain ⟨he, hq⟩ := hq
    have run : ∀ {x : V}, endV P f s = some x → ∃ v, (results fn a'.tmps).run P w' = .ok v w' ∧ VR w' L s.hp I' v x := by
      intro x hend
      unfold endV at hend
      rw [hfn] at hend
      simp only at hend
      split at hend
      · rename_i rr hr
        obtain ⟨v, g1, g2⟩ := resV_R (P := P) hs hend
        refine ⟨v, ?_, g2⟩
        have hm : (fn.results.mapM (resSem a')).run P w' = .ok #[v] w' := by
          rw [Array.mapM_eq_mapM_toList, hr]
          simp only [List.mapM_cons, List.mapM_nil, Sem.run_map, Sem.run_bind, g1, Result.andThen_ok]
          rfl
        have he : results fn a'.tmps = (fn.results.mapM (resSem a')) >>= fun vs => pure (if h : vs.size = 1 then vs[0] else .tuple vs) := by
          unfold results
          congr 1
        rw [he, Sem.run_bind, hm]
        rfl
      · cases hend
    have fin : a'.defers = [] ∧ ∃ v, (results fn a'.tmps).run P w' = .ok v w' ∧ PostN I w e sz r (.returned v) w' := by
      cases r with
      | none =>
        obtain ⟨v, g1, g2⟩ := run hq
        obtain ⟨ad, hv⟩ := g2
        exact ⟨hs.defers, v, g1, hs.below, I', hs.i0, hs.i1, hs.ib, ad, by rw [hv]⟩
      | some es =>
        obtain ⟨j, es0, hend, hj, htk⟩ := hq
        obtain ⟨v, g1, g2⟩ := run hend
        obtain ⟨q1, q2⟩ := g2 e sz es0 0 hj
        obtain ⟨hB, hsz0, hcap, hmx, hes, hIf, arr, hg, hsz, hcs⟩ := hs.hp j _ hj
        refine ⟨hs.defers, v, g1, hs.below, I', hs.i0, hs.i1, hs.ib, L.m j, L.cp j, arr, ?_, hB, ?_, hsz0, by omega, hmx, ?_, hg, hsz, ?_⟩
        · rw [q2]; simp
        · intro o ho
          have := hIf o ho
          omega
        · intro x hx
          rw [← htk] at hx
          exact hes x (List.mem_of_mem_take hx)
        · intro i k x t hx ht
          rw [← htk, List.getElem?_take] at hx
          split at hx
          · exact hcs i k x t hx ht
          · cases hx
    rcases he with rfl | rfl
    · exact fin
    · exact fin
  · cases hok
theorem SimD.adopt {j b0 cap : Nat} {blk : Blk} (h : SimD cx L I st a w) (hf : st.free j = true) (hfresh : ∀ j' b', st.hp.lookup j' = some b' → L.m j' ≠ b0)
    (hb : BR w (L.set j b0 cap) ((j, blk) :: st.hp) I cx.w0.heap.size j blk) : SimD cx (L.set j b0 cap) I (st.addB j blk) a w := by
  have k : Keep (some j) w w L (L.set j b0 cap) st.hp ((j, blk) :: st.hp) I I := by
    refine ⟨fun _ _ h => h, fun _ _ _ => rfl, fun j' hne hs => ?_, fun j' e sz es fz hne hl => ?_⟩
    · have : j' ≠ j := fun e => by subst e; simp at hne
      rw [qcS, if_neg this] at hs
      exact ⟨hs, by simp [Loc.set, this]⟩
    · have : j' ≠ j := fun e => by subst e; simp at hne
      rw [qcS, if_neg this] at hl
      exact ⟨es, fz, hl, Nat.le_refl _, by simp [Loc.set, this]⟩
  refine h.step k (fun j' e => by cases e; exact hf) (Below.refl _ _) h.i1 h.ib ?_ ?_
  · intro j1 j2 b1 b2 h1 h2 he
    rw [qcS] at h1 h2
    split at h1 <;> split at h2
    · rename_i e1 e2; rw [e1, e2]
    · rename_i e1 e2
      have := hfresh j2 b2 h2
      simp [Loc.set, e1, e2] at he
      exact absurd he.symm this
    · rename_i e1 e2
      have := hfresh j1 b1 h1
      simp [Loc.set, e1, e2] at he
      exact absurd he this
    · rename_i e1 e2
      simp [Loc.set, e1, e2] at he
      exact h.inj j1 j2 b1 b2 h1 h2 he
  · intro j' b' hl
    rw [qcS] at hl
    split at hl
    · rename_i e; subst e; cases hl; exact hb
    · rename_i e
      exact BR.keep k (h.hp j' b' hl) (St.free_hp hf hl e) rfl (by simp [Loc.set, e]) (by simp [Loc.set, e]) (fun o ho => ho)
def afterN (st : St) (d e sz : Nat) : Option (List (List T)) → St
  | none => st.put d (.c .nil)
  | some es => (st.addB d (.row e sz es 0)).put d (.c (.row d 0 es.length))
theorem ok_callN {x : Operand} {args : List Operand} {tys : Array TypeId} {f : FuncId} {d e sz : Nat} {hss : List (List Nat)} {ys : List TV} {r : Option (List (List T))} (ho : o.op = .call { callee := .value x, args := args.toArray, argTypes := tys }) (hd' : o.dst = some d)
    (hx : st.ev x = .c (.t (.fn f))) (hc : qqT P f = true) (hargs : argsH st hss args = some ys) (hf : st.free d = true) (hh : HoldsN P f ys e sz r) :
    OpOK P cx o st (afterN st d e sz r) := by
  intro hd a w hsim K Q hK
  obtain ⟨L, I, h⟩ := hsim
  have hfn : a.eval x = .func (.func f) #[] #[] := by
    have := h.ev x
    rw [hx] at this
    exact Rep.fn_inv this
  have hrun := run_call_value (P := P) (w := w) ho hfn hc
  have hcalls := hh I w (args.map a.eval) h.ib (VRs.reT (argsH_R h hargs))
  unfold Oper.wp
  rw [hrun, Oper.upon_enter]
  refine Calls.mono hcalls fun en w' he => ?_
  obtain ⟨hb, I', h1, h2, h3, hres⟩ := he
  have h' := h.after hb h1 h2 h3
  cases r with
  | none =>
    obtain ⟨ad, rfl⟩ := hres
    have := qk4 (o := o) (v := .c .nil) h' ⟨ad, rfl⟩ hd
    rw [hd'] at this
    refine hK _ _ ?_
    rw [hd']
    exact this
  | some es =>
    obtain ⟨b, cap, c, rfl, hlow, hnI, hsz0, hle, hmx, hes, hg, hsz, hcs⟩ := hres
    have h4 : SimD cx (L.set d b cap) I' (st.addB d (.row e sz es 0)) a w' := by
      refine h'.adopt hf (fun j' b' hl => by have := (h.hp j' b' hl).lt.2; omega) ?_
      refine ⟨by simpa [Loc.set] using Nat.le_trans h.below.size hlow, hsz0, by simpa [Loc.set] using hle, by simpa [Loc.set] using hmx, hes, ?_, c, by simpa [Loc.set] using hg, by simpa [Loc.set] using hsz, hcs⟩
      intro o ho
      simp only [Loc.set, if_true] at ho
      exact absurd ho (hnI o)
    have := qk4 (o := o) (v := .c (.row d 0 es.length)) (val := .slice (some ⟨b, 0, none⟩) es.length cap) h4 (by
      intro e' sz' es' fz' hl
      have hl' : (st.addB d (.row e sz es 0)).hp.lookup d = some (.row e' sz' es' fz') := hl
      rw [St.addB_lookup, if_pos rfl] at hl'
      cases hl'
      exact ⟨by omega, by simp [Loc.set]⟩) hd
    rw [hd'] at this
    refine hK _ _ ?_
    rw [hd']
    exact this
end
end Go.Am
namespace Go.Am
open Go.RowKit (Below)
def infG (P : Program) (ops : Array Oper) (st : St) (o : Oper) : H → Option (Inf × List Prop)
  | .ga b h => match o.guard with
    | some (g, b0) => match (ops[g]?).bind (·.dst) with
      | some t => match st.tm.lookup t with
        | some (.c (.t (.bool b'))) => if b = b0 then (infO P st o h).map fun r => (r.1, (b' = b) :: r.2) else some (⟨[], [], ⟨o.dst.map fun d => (d, .tup []), none⟩⟩, [b' = b])
        | _ => none
      | none => none
    | none => none
  | h => match o.guard with
    | none => infO P st o h
    | some (g, b0) => match (ops[g]?).bind (·.dst) with
      | some t => match st.tm.lookup t with
        | some (.c (.t (.bool b'))) => if b' = b0 then infO P st o h else some (⟨[], [], ⟨o.dst.map fun d => (d, .tup []), none⟩⟩, [])
        | some (.tup []) => some (⟨[], [], ⟨o.dst.map fun d => (d, .tup []), none⟩⟩, [])
        | _ => none
      | none => none
inductive I where
  | op (h : H)
  | appR (es2 es : List (List T))
  | appT (es : List (List T))
  | snap (t fz : Nat) (es : List (List T))
  | snapC (jb k fz : Nat) (es : List (List T))
  | nilT (t sz : Nat)
  | sb (t : Nat) (b : Bool)
  | si (t : Nat) (n : Int)
  | rl (t off len : Nat)
  | tellA (t : Nat) (hs : List Nat)
  | tellB (j : Nat) (hs : List Nat)
  | callR (js : List Nat) (F' : List (Nat × Blk)) (res : V)
  | callN (hss : List (List Nat)) (e sz : Nat) (r : Option (List (List T)))
  | keepT (ts : List Nat)
  | rlB (jb k off len : Nat)
  | keep (ts js : List Nat)
def pickB (hp : List (Nat × Blk)) (js : List Nat) : List (Nat × Blk) := js.filterMap fun j => (hp.lookup j).map fun b => (j, b)
theorem pickB_frame (hp : List (Nat × Blk)) : ∀ js : List Nat, frameIn hp (pickB hp js)
  | [], _ => rfl
  | j :: js, k => by
    have ih := pickB_frame hp js k
    unfold pickB at ih ⊢
    cases hl : hp.lookup j with
    | none => simpa [hl] using ih
    | some b =>
      simp only [List.filterMap_cons, hl, Option.map_some, List.cons_append]
      rw [qcS]
      split
      · rename_i e; subst e; exact hl.symm
      · exact ih
def andC (r : Option (St × List Prop)) (ps : List Prop) : Option (St × List Prop) := r.map fun q => (q.1, ps ++ q.2)
def seqX (P : Program) (ops : Array Oper) : List I → List Oper → St → Option (St × List Prop)
  | [], [], st => some (st, [])
  | [], _ :: _, _ => none
  | .op h :: is, o :: l, st => match infG P ops st o h with
    | some (i, φ) => if i.fresh.all (fun j => st.free j) then andC (seqX P ops is l (i.u.app st)) φ else none
    | none => none
  | .op _ :: _, [], _ => none
  | .appR es2 es' :: is, o :: l, st => match o.guard, o.op, o.dst with
    | none, .call { callee := .builtin .append, args, argTypes }, some d => match args.toList, argTypes.toList with
      | [s, x], [t, t'] => match st.ev s, qgE P t with
        | .c (.row j 0 len), some (e, sz, by', _) => match st.hp.lookup j, newsOf st.hp sz (st.ev x) with
          | some (.row e' sz' es 0), some new => if t = t' ∧ 0 < sz ∧ e = e' ∧ sz = sz' then
              andC (seqX P ops is l (((st.scrub j).addB j (.row e sz es' 0)).put d (.c (.row j 0 es'.length)))) [len = es.length, new = es2, es ++ es2 = es', es'.length * by' ≤ 140737488355328, es'.length ≤ maxLen] else none
          | _, _ => none
        | _, _ => none
      | _, _ => none
    | _, _, _ => none
  | .appR _ _ :: _, [], _ => none
  | .appT es' :: is, o :: l, st => match o.guard, o.op, o.dst with
    | none, .call { callee := .builtin .append, args, argTypes }, some d => match args.toList, argTypes.toList with
      | [s, x], [t, t'] => match st.ev s, qgE P t with
        | .c .nil, some (_, sz, by', _) => match newsOf st.hp sz (st.ev x), st.hp.lookup d with
          | some new, none => if t = t' ∧ 0 < sz ∧ st.free d then
              andC (seqX P ops is l (st.put d (.c (.t (.sl sz es'))))) [new = es', es'.length * by' ≤ 140737488355328, es'.length ≤ maxLen] else none
          | _, _ => none
        | _, _ => none
      | _, _ => none
    | _, _, _ => none
  | .appT _ :: _, [], _ => none
  | .snap t fz' es' :: is, l, st => match st.tm.lookup t with
    | some (.c (.row j off len)) => match st.hp.lookup j with
      | some (.row e sz es fz) => andC (seqX P ops is l ((st.addB j (.row e sz es fz')).put t (.c (.t (.sl sz es'))))) [(es.drop off).take len = es', max fz (off + len) = fz']
      | _ => none
    | some (.c (.clip j off len)) => match st.hp.lookup j with
      | some (.row e sz es fz) => andC (seqX P ops is l ((st.addB j (.row e sz es fz')).put t (.c (.t (.sl sz es'))))) [(es.drop off).take len = es', max fz (off + len) = fz']
      | _ => none
    | _ => none
  | .snapC jb k fz' es' :: is, l, st => match st.hp.lookup jb with
    | some (.var cs) => match cs[k]? with
      | some (.row j off len) => match st.hp.lookup j with
        | some (.row e sz es fz) => andC (seqX P ops is l ((st.addB j (.row e sz es fz')).addB jb (.var (cs.set k (.t (.sl sz es')))))) [(es.drop off).take len = es', max fz (off + len) = fz']
        | _ => none
      | _ => none
    | _ => none
  | .nilT t sz :: is, l, st => match st.tm.lookup t with
    | some (.c .nil) => seqX P ops is l (st.put t (.c (.t (.sl sz []))))
    | _ => none
  | .sb t b :: is, l, st => match st.tm.lookup t with
    | some (.c (.t (.bool b'))) => andC (seqX P ops is l (st.put t (boolV b))) [b' = b]
    | _ => none
  | .si t n :: is, l, st => match st.tm.lookup t with
    | some (.c (.t (.int k n'))) => andC (seqX P ops is l (st.put t (intV k n))) [n' = n]
    | _ => none
  | .rl t off' len' :: is, l, st => match st.tm.lookup t with
    | some (.c (.row j off len)) => andC (seqX P ops is l (st.put t (.c (.row j off' len')))) [off = off', len = len']
    | _ => none
  | .tellA t hs :: is, l, st => match st.tm.lookup t with
    | some (.agg cs) => match qqX (fun k => hs.getD k 0) 0 cs with
      | some ts => seqX P ops is l (st.put t (.agg (ts.map .t)))
      | none => none
    | _ => none
  | .tellB j hs :: is, l, st => match st.hp.lookup j with
    | some (.var cs) => match qqX (fun k => hs.getD k 0) 0 cs with
      | some ts => seqX P ops is l (st.addB j (.var (ts.map .t)))
      | none => none
    | _ => none
  | .callR js F' res :: is, o :: l, st => match o.guard, o.op with
    | none, .call { callee := .value x, args, argTypes := _ } => match fnOf (st.ev x) with
      | some (f, caps) => if qqT P f then andC (seqX P ops is l (({ st with hp := F' ++ st.hp } : St).put? o.dst res)) [HoldsR P f (args.toList.map st.ev ++ caps.map capV) (pickB st.hp js) F' res] else none
      | none => none
    | _, _ => none
  | .callR _ _ _ :: _, [], _ => none
  | .callN hss e sz r :: is, o :: l, st => match o.guard, o.op, o.dst with
    | none, .call { callee := .value x, args, argTypes := _ }, some d => match st.ev x, argsH st hss args.toList with
      | .c (.t (.fn f)), some ys => if qqT P f ∧ st.free d then
          andC (seqX P ops is l (afterN st d e sz r)) [HoldsN P f ys e sz r] else none
      | _, _ => none
    | _, _, _ => none
  | .callN _ _ _ _ :: _, [], _ => none
  | .keepT ts :: is, l, st => seqX P ops is l { st with tm := ts.filterMap fun t => (st.tm.lookup t).map fun v => (t, v) }
  | .rlB jb k off' len' :: is, l, st => match st.hp.lookup jb with
    | some (.var cs) => match cs[k]? with
      | some (.row j off len) => andC (seqX P ops is l (st.addB jb (.var (cs.set k (.row j off' len'))))) [off = off', len = len']
      | _ => none
    | _ => none
  | .keep ts js :: is, l, st => seqX P ops is l (st.keep ts js)
def rowsX (P : Program) (ops : Array Oper) : List H → List Oper → St → Option (List Inf × List Oper × St × List Prop)
  | [], l, st => some ([], l, st, [])
  | h :: hs, o :: l, st => match infG P ops st o h with
    | some (i, φ) => match rowsX P ops hs l (i.u.app st) with
      | some (is, l', st', ψ) => some (i :: is, l', st', φ ++ ψ)
      | none => none
    | none => none
  | _ :: _, [], _ => none
section
variable {P : Program} {cx : Cx} {o : Oper} {st st' : St} {ops : Array Oper} {l : List Oper} {R : St → Prop}
theorem infG_ok {h : H} {i : Inf} {φs : List Prop} (hx : infG P ops st o h = some (i, φs)) (hφ : AllP φs) : EffG P cx ops o st i.rk i.fresh i.u := by
  have plain : (match o.guard with
    | none => infO P st o h
    | some (g, b0) => match (ops[g]?).bind (·.dst) with
      | some t => match st.tm.lookup t with
        | some (.c (.t (.bool b'))) => if b' = b0 then infO P st o h else some (⟨[], [], ⟨o.dst.map fun d => (d, .tup []), none⟩⟩, [])
        | some (.tup []) => some (⟨[], [], ⟨o.dst.map fun d => (d, .tup []), none⟩⟩, [])
        | _ => none
      | none => none) = some (i, φs) → EffG P cx ops o st i.rk i.fresh i.u := by
    intro hx
    unfold EffG
    cases hg : o.guard with
    | none => rw [hg] at hx; exact infO_ok hx hφ
    | some p =>
      obtain ⟨g, b0⟩ := p
      rw [hg] at hx
      simp only at hx ⊢
      split at hx
      · rename_i t ht
        split at hx
        · rename_i b' hl
          split at hx
          · rename_i e
            exact ⟨t, _, some b', ht, hl, rfl, by rw [if_pos (by rw [e])]; exact infO_ok hx hφ⟩
          · rename_i e
            cases hx
            exact ⟨t, _, some b', ht, hl, rfl, by rw [if_neg (by simpa using e)]⟩
        · rename_i hl
          cases hx
          exact ⟨t, _, none, ht, hl, rfl, by rw [if_neg (by simp)]⟩
        · cases hx
      · cases hx
  cases h with
  | ga b h =>
    simp only [infG] at hx
    unfold EffG
    split at hx
    · rename_i g b0 hg
      rw [hg]
      simp only
      split at hx
      · rename_i t ht
        split at hx
        · rename_i b' hl
          split at hx
          · rename_i e
            obtain ⟨r, h1, h2⟩ := Option.map_eq_some_iff.1 hx
            cases h2
            obtain ⟨h3, h4⟩ := hφ
            exact ⟨t, _, some b', ht, hl, rfl, by rw [if_pos (by rw [h3.trans e])]; exact infO_ok h1 h4⟩
          · rename_i e
            cases hx
            exact ⟨t, _, some b', ht, hl, rfl, by rw [if_neg (by rw [hφ.1]; simpa using e)]⟩
        · cases hx
      · cases hx
    · cases hx
  | _ => exact plain hx
theorem agreeEv_self (st : St) : ∀ xs : List Operand, AgreeEv st st xs
  | [] => trivial
  | _ :: xs => ⟨rfl, agreeEv_self st xs⟩
theorem agreeB_self (st : St) : ∀ xs : List Nat, AgreeB st st xs
  | [] => trivial
  | _ :: xs => ⟨rfl, agreeB_self st xs⟩
theorem run_eff {rk fresh : List Nat} {u : Upd} (h : EffG P cx ops o st rk fresh u) (hf : ∀ j ∈ fresh, st.free j = true) (hr : qkS P cx ops l (u.app st) R) : qkS P cx ops (o :: l) st R := by
  unfold EffG at h
  split at h
  · rename_i hg
    exact run_op hg (h st (agreeEv_self st _) (agreeB_self st _) hf) hr
  · rename_i g b hg
    obtain ⟨t, v, yb, ht, hl, hyv, hif⟩ := h
    split at hif
    · rename_i e; subst e
      have hgb : guardB ops st g = some b := by
        unfold guardB
        rw [ht]
        simp only
        rw [hl]
        unfold yV at hyv
        split at hyv
        · cases hyv; rfl
        · cases hyv
        · cases hyv
      exact run_yes hg hgb (hif st (agreeEv_self st _) (agreeB_self st _) hf) hr
    · rename_i e
      subst hif
      rw [app_dst] at hr
      exact run_skip hg ht hl hyv e hr
theorem qfX {r : Option (St × List Prop)} {ps φ : List Prop} {s : St} (h : andC r ps = some (s, φ)) : ∃ ψ, r = some (s, ψ) ∧ φ = ps ++ ψ := by
  obtain ⟨q, h1, h2⟩ := Option.map_eq_some_iff.1 h
  cases h2
  exact ⟨_, h1, rfl⟩
theorem Sim.retellEq {t : Nat} {v v' : V} {a : Act} {w : World} (h : Sim cx st a w) (hl : st.tm.lookup t = some v) (e : v = v') : Sim cx (st.put t v') a w := by
  subst e
  obtain ⟨L, I, h⟩ := h
  obtain ⟨h1, h2⟩ := h.tm t v hl
  exact ⟨L, I, h.retell h2 h1⟩
theorem Sim.tellB {j : Nat} {hs : List Nat} {cs : List C} {ts : List T} {a : Act} {w : World} (hsim : Sim cx st a w) (hb : st.hp.lookup j = some (.var cs)) (ht : qqX (fun k => hs.getD k 0) 0 cs = some ts) :
    Sim cx (st.addB j (.var (ts.map .t))) a w := by
  obtain ⟨L, I, h⟩ := hsim
  obtain ⟨q1, q2, arr, ty, hg, hcs⟩ := h.hp j _ hb
  have hself : w.setRow (L.m j) arr = w := by rw [setRow_self w _ arr ty (0, 0) hg]
  have := h.write (b' := .var (ts.map .t)) (arr' := arr) hb hg (fun e' sz' es' fz' he => by cases he) (fun _ _ => rfl) (fun kk =>
    ⟨q1, q2, arr, ty, setRow_heap w _ arr _ ty _ hg, qvK (kk.cs (qmE _) hcs) ht⟩)
  rw [hself] at this
  exact ⟨L, _, this⟩
theorem Sim.tellA {t : Nat} {hs : List Nat} {cs : List C} {ts : List T} {a : Act} {w : World} (hsim : Sim cx st a w) (hl : st.tm.lookup t = some (.agg cs)) (ht : qqX (fun k => hs.getD k 0) 0 cs = some ts) :
    Sim cx (st.put t (.agg (ts.map .t))) a w := by
  obtain ⟨L, I, h⟩ := hsim
  obtain ⟨h1, h2⟩ := h.tm t _ hl
  obtain ⟨vs, e, hv⟩ := h1
  exact ⟨L, I, h.retell h2 ⟨vs, e, qvK hv ht⟩⟩
theorem Sim.sameB {jb k : Nat} {cs : List C} {c : C} {a : Act} {w : World} (hs : Sim cx st a w) (hb : st.hp.lookup jb = some (.var cs)) (hk : cs[k]? = some c) : Sim cx (st.addB jb (.var (cs.set k c))) a w := by
  obtain ⟨L, I, h⟩ := hs
  refine ⟨L, I, h.same (fun _ => rfl) (fun j => ?_) rfl⟩
  rw [St.addB_lookup]
  split
  · rename_i e; subst e
    rw [hb]
    congr 2
    apply List.ext_getElem?
    intro i
    rw [List.getElem?_set]
    split
    · rename_i e; subst e
      split
      · exact hk.symm
      · rename_i hlt; rw [List.getElem?_eq_none (by omega)]
    · rfl
  · rfl
theorem qj3 : ∀ {is : List I} {l : List Oper} {st st' : St} {φs : List Prop}, seqX P ops is l st = some (st', φs) → AllP φs → R st' → qkS P cx ops l st R
  | [], [], st, st', φs, h, _, hr => by simp only [seqX] at h; cases h; exact run_nil hr
  | [], _ :: _, _, _, _, h, _, _ => by simp [seqX] at h
  | .op hh :: is, o :: l, st, st', φs, h, hφ, hr => by
    simp only [seqX] at h
    split at h
    · rename_i i φ hi
      split at h
      · rename_i hf
        obtain ⟨ψ, h1, rfl⟩ := qfX h
        obtain ⟨g1, g2⟩ := hφ.append
        exact run_eff (infG_ok hi g1) (fun j hj => List.all_eq_true.1 hf j hj) (qj3 h1 g2 hr)
      · cases h
    · cases h
  | .op _ :: _, [], _, _, _, h, _, _ => by simp [seqX] at h
  | .appR es2 es' :: is, o :: l, st, st', φs, h, hφ, hr => by
    simp only [seqX] at h
    split at h
    · rename_i args tys d hg hop hd
      split at h
      · rename_i s x t t' ha ht
        have ha' : args = #[s, x] := by rw [← Array.toArray_toList (xs := args), ha]
        have ht' : tys = #[t, t'] := by rw [← Array.toArray_toList (xs := tys), ht]
        subst ha'; subst ht'
        split at h
        · rename_i j len e sz by' z hs hi
          split at h
          · rename_i e' sz' es new hj hn
            split at h
            · rename_i hc
              obtain ⟨rfl, hsz, rfl, rfl⟩ := hc
              obtain ⟨ψ, h1, rfl⟩ := qfX h
              obtain ⟨g1, g2⟩ := hφ.append
              obtain ⟨k1, k2, k3, k4, k5, _⟩ := g1
              subst k1; subst k2; subst k3
              have hlen : (es ++ new).length = es.length + new.length := List.length_append
              refine run_op hg (ok_app_row hop hd hi hsz hs hj (qt6 hn) (by rw [← hlen]; exact k4) (by rw [← hlen]; exact k5)) ?_
              rw [← hlen]
              exact qj3 h1 g2 hr
            · cases h
          · cases h
        · cases h
      · cases h
    · cases h
  | .appR _ _ :: _, [], _, _, _, h, _, _ => by simp [seqX] at h
  | .appT es' :: is, o :: l, st, st', φs, h, hφ, hr => by
    simp only [seqX] at h
    split at h
    · rename_i args tys d hg hop hd
      split at h
      · rename_i s x t t' ha ht
        have ha' : args = #[s, x] := by rw [← Array.toArray_toList (xs := args), ha]
        have ht' : tys = #[t, t'] := by rw [← Array.toArray_toList (xs := tys), ht]
        subst ha'; subst ht'
        split at h
        · rename_i e sz by' z hs hi
          split at h
          · rename_i new hn hjn
            split at h
            · rename_i hc
              obtain ⟨rfl, hsz, hf⟩ := hc
              obtain ⟨ψ, h1, rfl⟩ := qfX h
              obtain ⟨g1, g2⟩ := hφ.append
              obtain ⟨k1, k2, k3, _⟩ := g1
              subst k1
              exact run_op hg (ok_app_nilT hop hd hi hsz hs (qt6 hn) k2 k3 hf hjn) (qj3 h1 g2 hr)
            · cases h
          · cases h
        · cases h
      · cases h
    · cases h
  | .appT _ :: _, [], _, _, _, h, _, _ => by simp [seqX] at h
  | .snap t fz' es' :: is, l, st, st', φs, h, hφ, hr => by
    simp only [seqX] at h
    split at h
    · rename_i j off len ht
      split at h
      · rename_i e sz es fz hj
        obtain ⟨ψ, h1, rfl⟩ := qfX h
        obtain ⟨g1, g2⟩ := hφ.append
        obtain ⟨k1, k2, _⟩ := g1
        subst k1; subst k2
        exact qq7 (fun a w hs => hs.snap ht hj) (qj3 h1 g2 hr)
      · cases h
    · rename_i j off len ht
      split at h
      · rename_i e sz es fz hj
        obtain ⟨ψ, h1, rfl⟩ := qfX h
        obtain ⟨g1, g2⟩ := hφ.append
        obtain ⟨k1, k2, _⟩ := g1
        subst k1; subst k2
        exact qq7 (fun a w hs => hs.snapClip ht hj) (qj3 h1 g2 hr)
      · cases h
    · cases h
  | .snapC jb k fz' es' :: is, l, st, st', φs, h, hφ, hr => by
    simp only [seqX] at h
    split at h
    · rename_i cs hb
      split at h
      · rename_i j off len hk
        split at h
        · rename_i e sz es fz hj
          obtain ⟨ψ, h1, rfl⟩ := qfX h
          obtain ⟨g1, g2⟩ := hφ.append
          obtain ⟨k1, k2, _⟩ := g1
          subst k1; subst k2
          exact qq7 (fun a w hs => hs.snapCell hb hk hj) (qj3 h1 g2 hr)
        · cases h
      · cases h
    · cases h
  | .nilT t sz :: is, l, st, st', φs, h, hφ, hr => by
    simp only [seqX] at h
    split at h
    · rename_i ht
      exact qq7 (fun a w hs => hs.nilT ht) (qj3 h hφ hr)
    · cases h
  | .sb t b :: is, l, st, st', φs, h, hφ, hr => by
    simp only [seqX] at h
    split at h
    · rename_i b' ht
      obtain ⟨ψ, h1, rfl⟩ := qfX h
      obtain ⟨g1, g2⟩ := hφ.append
      exact qq7 (fun a w hs => hs.retellEq ht (by rw [g1.1]; rfl)) (qj3 h1 g2 hr)
    · cases h
  | .si t n :: is, l, st, st', φs, h, hφ, hr => by
    simp only [seqX] at h
    split at h
    · rename_i k n' ht
      obtain ⟨ψ, h1, rfl⟩ := qfX h
      obtain ⟨g1, g2⟩ := hφ.append
      exact qq7 (fun a w hs => hs.retellEq ht (by rw [g1.1]; rfl)) (qj3 h1 g2 hr)
    · cases h
  | .rl t off' len' :: is, l, st, st', φs, h, hφ, hr => by
    simp only [seqX] at h
    split at h
    · rename_i j off len ht
      obtain ⟨ψ, h1, rfl⟩ := qfX h
      obtain ⟨g1, g2⟩ := hφ.append
      exact qq7 (fun a w hs => hs.retellEq ht (by rw [g1.1, g1.2.1])) (qj3 h1 g2 hr)
    · cases h
  | .tellA t ks :: is, l, st, st', φs, h, hφ, hr => by
    simp only [seqX] at h
    split at h
    · rename_i cs ht
      split at h
      · rename_i ts hts
        exact qq7 (fun a w hs => hs.tellA ht hts) (qj3 h hφ hr)
      · cases h
    · cases h
  | .tellB j ks :: is, l, st, st', φs, h, hφ, hr => by
    simp only [seqX] at h
    split at h
    · rename_i cs ht
      split at h
      · rename_i ts hts
        exact qq7 (fun a w hs => hs.tellB ht hts) (qj3 h hφ hr)
      · cases h
    · cases h
  | .callR js F' res :: is, o :: l, st, st', φs, h, hφ, hr => by
    simp only [seqX] at h
    split at h
    · rename_i x args tys hg hop
      split at h
      · rename_i f caps hx
        split at h
        · rename_i hc
          obtain ⟨ψ, h1, rfl⟩ := qfX h
          obtain ⟨g1, g2⟩ := hφ.append
          have hop' : o.op = .call { callee := .value x, args := args.toList.toArray, argTypes := tys } := by simpa using hop
          exact run_op hg (ok_callR hop' hx hc (pickB_frame st.hp js) g1.1) (qj3 h1 g2 hr)
        · cases h
      · cases h
    · cases h
  | .callR _ _ _ :: _, [], _, _, _, h, _, _ => by simp [seqX] at h
  | .callN hss e sz r :: is, o :: l, st, st', φs, h, hφ, hr => by
    simp only [seqX] at h
    split at h
    · rename_i x args tys d hg hop hd
      split at h
      · rename_i f ys hx ha
        split at h
        · rename_i hc
          obtain ⟨ψ, h1, rfl⟩ := qfX h
          obtain ⟨g1, g2⟩ := hφ.append
          have hop' : o.op = .call { callee := .value x, args := args.toList.toArray, argTypes := tys } := by simpa using hop
          exact run_op hg (ok_callN hop' hd hx hc.1 ha hc.2 g1.1) (qj3 h1 g2 hr)
        · cases h
      · cases h
    · cases h
  | .callN _ _ _ _ :: _, [], _, _, _, h, _, _ => by simp [seqX] at h
  | .keepT ts :: is, l, st, st', φs, h, hφ, hr => by
    simp only [seqX] at h
    exact qq7 (fun a w hs => by obtain ⟨L, I, hs⟩ := hs; exact ⟨L, I, hs.sub (fun t v ht => qeV ht) (fun _ _ hb => hb) rfl⟩) (qj3 h hφ hr)
  | .rlB jb k off' len' :: is, l, st, st', φs, h, hφ, hr => by
    simp only [seqX] at h
    split at h
    · rename_i cs hb
      split at h
      · rename_i j off len hk
        obtain ⟨ψ, h1, rfl⟩ := qfX h
        obtain ⟨g1, g2⟩ := hφ.append
        obtain ⟨k1, k2, _⟩ := g1
        subst k1; subst k2
        exact qq7 (fun a w hs => hs.sameB hb hk) (qj3 h1 g2 hr)
      · cases h
    · cases h
  | .keep ts js :: is, l, st, st', φs, h, hφ, hr => by
    simp only [seqX] at h
    exact qq7 (fun a w hs => hs.keep ts js) (qj3 h hφ hr)
theorem preS : ∀ {is : List I} {st st' : St} {φs : List Prop}, seqX P #[] is [] st = some (st', φs) → AllP φs → ∀ a w, Sim cx st a w → Sim cx st' a w
  | [], st, st', φs, h, _ => by simp only [seqX] at h; cases h; exact fun _ _ hs => hs
  | .op _ :: _, _, _, _, h, _ => by simp [seqX] at h
  | .appR _ _ :: _, _, _, _, h, _ => by simp [seqX] at h
  | .appT _ :: _, _, _, _, h, _ => by simp [seqX] at h
  | .snap t fz' es' :: is, st, st', φs, h, hφ => by
    simp only [seqX] at h
    split at h
    · rename_i j off len ht
      split at h
      · rename_i e sz es fz hj
        obtain ⟨ψ, h1, rfl⟩ := qfX h
        obtain ⟨g1, g2⟩ := hφ.append
        obtain ⟨k1, k2, _⟩ := g1
        subst k1; subst k2
        exact fun a w hs => preS h1 g2 a w (hs.snap ht hj)
      · cases h
    · rename_i j off len ht
      split at h
      · rename_i e sz es fz hj
        obtain ⟨ψ, h1, rfl⟩ := qfX h
        obtain ⟨g1, g2⟩ := hφ.append
        obtain ⟨k1, k2, _⟩ := g1
        subst k1; subst k2
        exact fun a w hs => preS h1 g2 a w (hs.snapClip ht hj)
      · cases h
    · cases h
  | .snapC jb k fz' es' :: is, st, st', φs, h, hφ => by
    simp only [seqX] at h
    split at h
    · rename_i cs hb
      split at h
      · rename_i j off len hk
        split at h
        · rename_i e sz es fz hj
          obtain ⟨ψ, h1, rfl⟩ := qfX h
          obtain ⟨g1, g2⟩ := hφ.append
          obtain ⟨k1, k2, _⟩ := g1
          subst k1; subst k2
          exact fun a w hs => preS h1 g2 a w (hs.snapCell hb hk hj)
        · cases h
      · cases h
    · cases h
  | .nilT t sz :: is, st, st', φs, h, hφ => by
    simp only [seqX] at h
    split at h
    · rename_i ht
      exact fun a w hs => preS h hφ a w (hs.nilT ht)
    · cases h
  | .sb t b :: is, st, st', φs, h, hφ => by
    simp only [seqX] at h
    split at h
    · rename_i b' ht
      obtain ⟨ψ, h1, rfl⟩ := qfX h
      obtain ⟨g1, g2⟩ := hφ.append
      exact fun a w hs => preS h1 g2 a w (hs.retellEq ht (by rw [g1.1]; rfl))
    · cases h
  | .si t n :: is, st, st', φs, h, hφ => by
    simp only [seqX] at h
    split at h
    · rename_i k n' ht
      obtain ⟨ψ, h1, rfl⟩ := qfX h
      obtain ⟨g1, g2⟩ := hφ.append
      exact fun a w hs => preS h1 g2 a w (hs.retellEq ht (by rw [g1.1]; rfl))
    · cases h
  | .rl t off' len' :: is, st, st', φs, h, hφ => by
    simp only [seqX] at h
    split at h
    · rename_i j off len ht
      obtain ⟨ψ, h1, rfl⟩ := qfX h
      obtain ⟨g1, g2⟩ := hφ.append
      exact fun a w hs => preS h1 g2 a w (hs.retellEq ht (by rw [g1.1, g1.2.1]))
    · cases h
  | .tellA t ks :: is, st, st', φs, h, hφ => by
    simp only [seqX] at h
    split at h
    · rename_i cs ht
      split at h
      · rename_i ts hts
        exact fun a w hs => preS h hφ a w (hs.tellA ht hts)
      · cases h
    · cases h
  | .tellB j ks :: is, st, st', φs, h, hφ => by
    simp only [seqX] at h
    split at h
    · rename_i cs ht
      split at h
      · rename_i ts hts
        exact fun a w hs => preS h hφ a w (hs.tellB ht hts)
      · cases h
    · cases h
  | .callR _ _ _ :: _, _, _, _, h, _ => by simp [seqX] at h
  | .callN _ _ _ _ :: _, _, _, _, h, _ => by simp [seqX] at h
  | .keepT ts :: is, st, st', φs, h, hφ => by
    simp only [seqX] at h
    exact fun a w hs => preS h hφ a w (by obtain ⟨L, I, hs⟩ := hs; exact ⟨L, I, hs.sub (fun t v ht => qeV ht) (fun _ _ hb => hb) rfl⟩)
  | .rlB jb k off' len' :: is, st, st', φs, h, hφ => by
    simp only [seqX] at h
    split at h
    · rename_i cs hb
      split at h
      · rename_i j off len hk
        obtain ⟨ψ, h1, rfl⟩ := qfX h
        obtain ⟨g1, g2⟩ := hφ.append
        obtain ⟨k1, k2, _⟩ := g1
        subst k1; subst k2
        exact fun a w hs => preS h1 g2 a w (hs.sameB hb hk)
      · cases h
    · cases h
  | .keep ts js :: is, st, st', φs, h, hφ => by
    simp only [seqX] at h
    exact fun a w hs => preS h hφ a w (hs.keep ts js)
theorem rowsX_ok : ∀ {hs : List H} {l l' : List Oper} {st st' : St} {is : List Inf} {φs : List Prop}, rowsX P ops hs l st = some (is, l', st', φs) → AllP φs → qkS P cx ops l' st' R → RowsOK P cx ops R l is st
  | [], l, l', st, st', is, φs, h, _, hr => by simp only [rowsX] at h; cases h; simpa only [RowsOK] using hr
  | hh :: hs, o :: l, l', st, st', is, φs, h, hφ, hr => by
    simp only [rowsX] at h
    split at h
    · rename_i i φ hi
      split at h
      · rename_i is' l'' st'' ψ h1
        cases h
        obtain ⟨g1, g2⟩ := hφ.append
        exact ⟨infG_ok hi g1, rowsX_ok h1 g2 hr⟩
      · cases h
    · cases h
  | _ :: _, [], _, _, _, _, _, h, _, _ => by simp [rowsX] at h
end
inductive Fr where
  | code (c : Code)
  | blk (id : Nat)
  | lp (c : Code)
  | sc
inductive G where
  | reg (is : List I)
  | draw (hs : List H) (is : List I)
  | br (b : Bool)
  | go
  | pre (is : List I)
def Pos : Type := List Fr × Exit
def andG (r : Option (List Fr × Exit × St × List Prop)) (ps : List Prop) : Option (List Fr × Exit × St × List Prop) := r.map fun q => (q.1, q.2.1, q.2.2.1, ps ++ q.2.2.2)
def goX (P : Program) (n : Nat) : Nat → List Fr → Exit → St → List G → Option (List Fr × Exit × St × List Prop)
  | 0, _, _, _, _ => none
  | fuel + 1, k, e, st, gs =>
    match k with
    | [] => match gs with | [] => some ([], e, st, []) | _ => none
    | .blk id :: k => match e with
      | .exit id' => goX P n fuel k (if id' = id then .normal else .exit id') st gs
      | e => goX P n fuel k e st gs
    | .lp c :: k => match e with
      | .normal => goX P n fuel (.code (.loop c) :: k) .normal st gs
      | e => goX P n fuel k e st gs
    | .sc :: k => match e with
      | .goto _ => none
      | e => goX P n fuel k e st gs
    | .code c :: k => match e with
      | .normal => match c with
        | .scope x => goX P n fuel (.code x :: .sc :: k) .normal st gs
        | .seq x y => goX P n fuel (.code x :: .code y :: k) .normal st gs
        | .block id x => goX P n fuel (.code x :: .blk id :: k) .normal st gs
        | .skip => goX P n fuel k .normal st gs
        | .exit id => goX P n fuel k (.exit id) st gs
        | .ret => goX P n fuel k .ret st gs
        | .label _ => goX P n fuel k .normal st gs
        | c => match gs with
          | [] => some (.code c :: k, .normal, st, [])
          | .pre is :: gs => match seqX P #[] is [] st with
            | some (st', φ) => andG (goX P n fuel (.code c :: k) .normal st' gs) φ
            | none => none
          | g :: gs => match c, g with
            | .region _ ops false, .reg is => if dstsOk n ops.toList then match seqX P ops is ops.toList st with
                | some (st', φ) => andG (goX P n fuel k .normal st' gs) φ
                | none => none
              else none
            | .region _ ops true, .draw hs is => if dstsOk n ops.toList ∧ P.follows .mixedOrders = true then match rowsX P ops hs ops.toList st with
                | some (infs, l', st1, φ) => if commOk ops infs ∧ infs.length ≤ ops.toList.length ∧ infs.all (fun i => i.fresh.all fun k => st.free k) = true then match seqX P ops is l' st1 with
                    | some (st', ψ) => andG (goX P n fuel k .normal st' gs) (φ ++ ψ)
                    | none => none
                  else none
                | none => none
              else none
            | .cond cc x y, .br b => match st.ev cc with
              | .c (.t (.bool b')) => andG (goX P n fuel (.code (if b then x else y) :: k) .normal st gs) [b' = b]
              | _ => none
            | .loop x, .go => goX P n fuel (.code x :: .lp x :: k) .normal st gs
            | _, _ => none
      | e => goX P n fuel k e st gs
section
variable {P : Program} {cx : Cx}
def LW (P : Program) (cx : Cx) (x : Code) (st : St) (Q : Exit → St → Prop) : Prop :=
  ∀ a w, Sim cx st a w → ∀ (b : Frame) (k : List Item) (cs : List Frame),
    ∃ e a' w', (∃ st', Q e st' ∧ Sim cx st' a' w') ∧ Arrives P (lone (b.at a (.code x :: .inLoop x :: k)) cs w) b k cs e a' w'
theorem LW.aw {x : Code} {st : St} {Q : Exit → St → Prop} (h : LW P cx x st Q) : AW P cx (.loop x) st Q := fun a w hs b k cs =>
  let ⟨e, a', w', hq, harr⟩ := h a w hs b k cs
  ⟨e, a', w', hq, .of_steps (.one step_loop) harr⟩
theorem LW.round {x : Code} {st : St} {Q : Exit → St → Prop} (h : AW P cx x st (thenQ (fun s => LW P cx x s Q) Q)) : LW P cx x st Q := by
  intro a w hs b k cs
  obtain ⟨e, a₁, w₁, ⟨s, hq, hs1⟩, harr⟩ := h a w hs b (.inLoop x :: k) cs
  cases e with
  | normal =>
    obtain ⟨e₂, a₂, w₂, hq₂, harr₂⟩ := hq a₁ w₁ hs1 b k cs
    exact ⟨e₂, a₂, w₂, hq₂, .of_steps (Steps.trans harr (.one step_inLoop)) harr₂⟩
  | exit id => exact ⟨_, a₁, w₁, ⟨s, hq, hs1⟩, .pass (x := .inLoop x) rfl (fun _ _ => .inl (by simp)) harr⟩
  | goto l => exact ⟨_, a₁, w₁, ⟨s, hq, hs1⟩, .pass (x := .inLoop x) rfl (fun _ _ => .inl (by simp)) harr⟩
  | ret => exact ⟨_, a₁, w₁, ⟨s, hq, hs1⟩, .pass (x := .inLoop x) rfl (fun _ _ => .inl (by simp)) harr⟩
  | panic ch => exact ⟨_, a₁, w₁, ⟨s, hq, hs1⟩, .pass (x := .inLoop x) rfl (fun _ _ => .inl (by simp)) harr⟩
  | outgrown => exact ⟨_, a₁, w₁, ⟨s, hq, hs1⟩, .pass (x := .inLoop x) rfl (fun _ _ => .inl (by simp)) harr⟩
def CW (P : Program) (cx : Cx) (c : Code) (st : St) (Q : Exit → St → Prop) : Prop :=
  match c with
  | .loop x => LW P cx x st Q
  | c => AW P cx c st Q
theorem CW.aw {c : Code} {st : St} {Q : Exit → St → Prop} (h : CW P cx c st Q) : AW P cx c st Q := by
  cases c with
  | loop x => exact LW.aw h
  | _ => exact h
def AWk (P : Program) (cx : Cx) (F : Exit → St → Prop) : List Fr → Exit → St → Prop
  | [], e, st => F e st
  | .code c :: k, e, st => match e with
    | .normal => CW P cx c st (AWk P cx F k)
    | e => AWk P cx F k e st
  | .blk id :: k, e, st => match e with
    | .exit id' => AWk P cx F k (if id' = id then .normal else .exit id') st
    | e => AWk P cx F k e st
  | .lp c :: k, e, st => match e with
    | .normal => LW P cx c st (AWk P cx F k)
    | e => AWk P cx F k e st
  | .sc :: k, e, st => match e with
    | .goto _ => False
    | e => AWk P cx F k e st
variable {F : Exit → St → Prop} {n : Nat}
theorem andG_some {r : Option (List Fr × Exit × St × List Prop)} {ps φ : List Prop} {k' : List Fr} {e' : Exit} {s : St} (h : andG r ps = some (k', e', s, φ)) : ∃ ψ, r = some (k', e', s, ψ) ∧ φ = ps ++ ψ := by
  obtain ⟨q, h1, h2⟩ := Option.map_eq_some_iff.1 h
  cases h2
  exact ⟨_, h1, rfl⟩
theorem preCW {c : Code} {Q : Exit → St → Prop} {is : List I} {st st' : St} {φs : List Prop} (h : seqX P #[] is [] st = some (st', φs)) (hφ : AllP φs) (hc : CW P cx c st' Q) : CW P cx c st Q := by
  cases c with
  | loop x => exact fun a w hs => hc a w (preS h hφ a w hs)
  | _ => exact fun a w hs => hc a w (preS h hφ a w hs)
theorem qsR {c : Code} {k : List Fr} {st : St} (h : AWk P cx F (.code c :: k) .normal st) : AW P cx c st (AWk P cx F k) := CW.aw h
theorem qkI (hn : cx.n = n) : ∀ {fuel : Nat} {k k' : List Fr} {e e' : Exit} {st st' : St} {gs : List G} {φs : List Prop}, goX P n fuel k e st gs = some (k', e', st', φs) → AllP φs →
    AWk P cx F k' e' st' → AWk P cx F k e st
  | 0, _, _, _, _, _, _, _, _, h, _, _ => by simp [goX] at h
  | fuel + 1, k, k', e, e', st, st', gs, φs, h, hφ, hr => by
    unfold goX at h
    cases k with
    | nil =>
      simp only at h
      split at h
      · cases h; exact hr
      · cases h
    | cons fr k =>
      cases fr with
      | blk id =>
        simp only at h
        cases e with
        | exit id' => exact (qkI (k := k) hn h hφ hr : AWk P cx F k (if id' = id then .normal else .exit id') st)
        | normal => exact (qkI (k := k) hn h hφ hr : AWk P cx F k .normal st)
        | goto l => exact (qkI (k := k) hn h hφ hr : AWk P cx F k (.goto l) st)
        | ret => exact (qkI (k := k) hn h hφ hr : AWk P cx F k .ret st)
        | panic ch => exact (qkI (k := k) hn h hφ hr : AWk P cx F k (.panic ch) st)
        | outgrown => exact (qkI (k := k) hn h hφ hr : AWk P cx F k .outgrown st)
      | lp c =>
        simp only at h
        cases e with
        | normal => exact (qkI (k := .code (.loop c) :: k) hn h hφ hr : AWk P cx F (.code (.loop c) :: k) .normal st)
        | exit id' => exact (qkI (k := k) hn h hφ hr : AWk P cx F k (.exit id') st)
        | goto l => exact (qkI (k := k) hn h hφ hr : AWk P cx F k (.goto l) st)
        | ret => exact (qkI (k := k) hn h hφ hr : AWk P cx F k .ret st)
        | panic ch => exact (qkI (k := k) hn h hφ hr : AWk P cx F k (.panic ch) st)
        | outgrown => exact (qkI (k := k) hn h hφ hr : AWk P cx F k .outgrown st)
      | sc =>
        simp only at h
        cases e with
        | exit id' => exact (qkI (k := k) hn h hφ hr : AWk P cx F k (.exit id') st)
        | normal => exact (qkI (k := k) hn h hφ hr : AWk P cx F k .normal st)
        | goto l => cases h
        | ret => exact (qkI (k := k) hn h hφ hr : AWk P cx F k .ret st)
        | panic ch => exact (qkI (k := k) hn h hφ hr : AWk P cx F k (.panic ch) st)
        | outgrown => exact (qkI (k := k) hn h hφ hr : AWk P cx F k .outgrown st)
      | code c =>
        simp only at h
        cases e with
        | normal =>
          have stop : ∀ {k' : List Fr} {e' : Exit} {st' : St} {φs : List Prop}, some (Fr.code c :: k, Exit.normal, st, ([] : List Prop)) = some (k', e', st', φs) → AWk P cx F k' e' st' → AWk P cx F (.code c :: k) .normal st := by
            intro k' e' st' φs h hr; cases h; exact hr
          have pre : ∀ {is : List I} {gs : List G}, (match seqX P #[] is [] st with
              | some (st', φ) => andG (goX P n fuel (.code c :: k) .normal st' gs) φ
              | none => none) = some (k', e', st', φs) → AWk P cx F (.code c :: k) .normal st := by
            intro is gs h
            split at h
            · rename_i st1 φ h1
              obtain ⟨ψ, h2, rfl⟩ := andG_some h
              obtain ⟨g1, g2⟩ := hφ.append
              exact preCW h1 g1 (qkI (k := .code c :: k) hn h2 g2 hr)
            · cases h
          cases c with
          | seq x y => exact aw_seq (fun a w hs => wp_mono (qsR (qkI (k := .code x :: .code y :: k) hn h hφ hr) a w hs) fun e _ _ ⟨s, h1, h2⟩ => by
              cases e with
              | normal => exact ⟨s, CW.aw h1, h2⟩
              | _ => exact ⟨s, h1, h2⟩)
          | block id x => exact aw_block (fun a w hs => wp_mono (qsR (qkI (k := .code x :: .blk id :: k) hn h hφ hr) a w hs) fun e _ _ ⟨s, h1, h2⟩ => by
              cases e with
              | exit id' =>
                refine ⟨s, ?_, h2⟩
                simp only [blockQ]
                simp only [AWk] at h1
                split
                · rename_i e; rw [if_pos e] at h1; exact h1
                · rename_i e; rw [if_neg e] at h1; exact h1
              | _ => exact ⟨s, h1, h2⟩)
          | scope x => exact fun a w hs => wp_scope_straight (wp_mono (qsR (qkI (k := .code x :: .sc :: k) hn h hφ hr) a w hs) fun e _ _ ⟨s, h1, h2⟩ => by
              cases e with
              | goto l => exact h1.elim
              | _ => exact ⟨s, h1, h2⟩)
          | skip => exact aw_skip (qkI hn h hφ hr)
          | exit id => exact aw_exit (qkI (e := .exit id) hn h hφ hr)
          | ret => exact aw_ret (qkI (e := .ret) hn h hφ hr)
          | label l => exact aw_label (qkI hn h hφ hr)
          | region id ops draw =>
            simp only at h
            split at h
            · exact stop h hr
            · exact pre h
            · rename_i g gs hnp
              split at h
              · rename_i ops' is heq
                cases heq
                split at h
                · rename_i hd
                  split at h
                  · rename_i st1 φ h1
                    obtain ⟨ψ, h2, rfl⟩ := andG_some h
                    obtain ⟨g1, g2⟩ := hφ.append
                    have := aw_region (id := id) (Q := AWk P cx F k) hn hd (qj3 (R := AWk P cx F k .normal) (ops := ops.toList.toArray) (by simpa using h1) g1 (qkI hn h2 g2 hr))
                    rw [Array.toArray_toList] at this
                    exact this
                  · cases h
                · cases h
              · rename_i ops' hs is heq
                cases heq
                split at h
                · rename_i hd
                  obtain ⟨hd, hmix⟩ := hd
                  split at h
                  · rename_i infs l' st1 φ h1
                    split at h
                    · rename_i hc
                      obtain ⟨hc, hm, hf⟩ := hc
                      split at h
                      · rename_i st2 ψ h2
                        obtain ⟨χ, h3, rfl⟩ := andG_some h
                        obtain ⟨g1, g3⟩ := hφ.append
                        obtain ⟨g1, g2⟩ := g1.append
                        have := aw_region_draw (id := id) (Q := AWk P cx F k) infs hmix hn hd hm (by simpa using hc) hf
                          (rowsX_ok (ops := ops.toList.toArray) (by simpa using h1) g1 (qj3 (R := AWk P cx F k .normal) (by simpa using h2) g2 (qkI hn h3 g3 hr)))
                        rw [Array.toArray_toList] at this
                        exact this
                      · cases h
                    · cases h
                  · cases h
                · cases h
              · rename_i heq; cases heq
              · rename_i heq; cases heq
              · cases h
          | cond cc x y =>
            simp only at h
            split at h
            · exact stop h hr
            · exact pre h
            · rename_i g gs hnp
              split at h
              · rename_i heq; cases heq
              · rename_i heq; cases heq
              · rename_i cc' x' y' b heq
                cases heq
                split at h
                · rename_i b' hb
                  obtain ⟨ψ, h2, rfl⟩ := andG_some h
                  obtain ⟨g1, g2⟩ := hφ.append
                  have h3 := qsR (qkI hn h2 g2 hr)
                  refine aw_cond hb (fun e => ?_) (fun e => ?_)
                  · rw [g1.1] at e; subst e; exact h3
                  · rw [g1.1] at e; subst e; exact h3
                · cases h
              · rename_i heq; cases heq
              · cases h
          | loop x =>
            simp only at h
            split at h
            · exact stop h hr
            · exact pre h
            · rename_i g gs hnp
              split at h
              · rename_i heq; cases heq
              · rename_i heq; cases heq
              · rename_i heq; cases heq
              · rename_i x' heq
                cases heq
                exact LW.round (fun a w hs => wp_mono (qsR (qkI (k := .code x :: .lp x :: k) hn h hφ hr) a w hs) fun e _ _ ⟨s, h1, h2⟩ => by
                  cases e with
                  | normal => exact ⟨s, h1, h2⟩
                  | _ => exact ⟨s, h1, h2⟩)
              · cases h
          | _ =>
            simp only at h
            split at h
            · exact stop h hr
            · exact pre h
            · cases h
        | exit id' => exact (qkI (k := k) hn h hφ hr : AWk P cx F k (.exit id') st)
        | goto l => exact (qkI (k := k) hn h hφ hr : AWk P cx F k (.goto l) st)
        | ret => exact (qkI (k := k) hn h hφ hr : AWk P cx F k .ret st)
        | panic ch => exact (qkI (k := k) hn h hφ hr : AWk P cx F k (.panic ch) st)
        | outgrown => exact (qkI (k := k) hn h hφ hr : AWk P cx F k .outgrown st)
end
end Go.Am
namespace Go.Am
open Go.RowKit (Below)
def subC : Code → Nat → Code
  | .seq a _, 0 => a
  | .seq _ b, _ => b
  | .cond _ a _, 0 => a
  | .cond _ _ b, _ => b
  | .block _ c, _ => c
  | .loop c, _ => c
  | .scope c, _ => c
  | .rangeFunc _ _ a _, 0 => a
  | .rangeFunc _ _ _ b, _ => b
  | c, _ => c
def atC : Code → List Nat → Code
  | c, [] => c
  | c, i :: p => atC (subC c i) p
def qbN (P : Program) (f : FuncId) : Code := match P.funcs[f]? with | some fn => fn.body.getD .skip | none => .skip
def fnOk (P : Program) (f : FuncId) (n : Nat) : Bool := match P.funcs[f]? with | some fn => fn.body.isSome && fn.ntmps == n | none => false
def qcT (P : Program) (f : FuncId) (hss : List (List Nat)) (res : TV) (e : Exit) (s : St) : Prop := match P.funcs[f]? with | some fn => Ends P fn hss res e s | none => False
theorem holds_fn {P : Program} {f : FuncId} {n : Nat} {args : List TV} {res : TV} (hss : List (List Nat)) (hok : fnOk P f n = true) (hl : args.length ≤ n)
    (h : ∀ cx : Cx, cx.n = n → AWk P cx (qcT P f hss res) [.code (qbN P f)] .normal (St.init args)) : qcX P f args res := by
  unfold fnOk at hok
  split at hok
  · rename_i fn hfn
    simp only [Bool.and_eq_true, beq_iff_eq] at hok
    obtain ⟨c, hc⟩ := Option.isSome_iff_exists.1 hok.1
    refine holds_of hss hfn hc hok.2 hl fun cx hcx => ?_
    have := qsR (h cx hcx)
    have hbody : qbN P f = c := by unfold qbN; rw [hfn]; show fn.body.getD .skip = c; rw [hc]; rfl
    rw [hbody] at this
    intro a w hs
    refine wp_mono (this a w hs) fun e _ _ ⟨s, h1, h2⟩ => ⟨s, ?_, h2⟩
    have h1' : qcT P f hss res e s := h1
    unfold qcT at h1'
    rw [hfn] at h1'
    exact h1'
  · cases hok
theorem aN : AllP [] := trivial
theorem aC {p : Prop} {ps : List Prop} (h : p) (t : AllP ps) : AllP (p :: ps) := ⟨h, t⟩
theorem r0 : 0 = 0 := rfl
theorem rt : true = true := rfl
theorem rf : false = false := rfl
theorem lq {α : Type} (l : List α) : l.length = l.length := rfl
abbrev oo : I := .op .p
structure Wk (P : Program) (cx : Cx) (F : Exit → St → Prop) (k : List Fr) (e : Exit) (st : St) : Prop where
  h : AWk P cx F k e st
abbrev wI6 (x : Int) : Int := IntKind.i64.wrap x
abbrev wU6 (x : Int) : Int := IntKind.u64.wrap x
abbrev wU3 (x : Int) : Int := IntKind.u32.wrap x
abbrev wU1 (x : Int) : Int := IntKind.u8.wrap x
abbrev rgG (l : List I) : G := .reg l
abbrev opI (h : H) : I := .op h
theorem qa2 {P : Program} {f : FuncId} {n : Nat} {args : List TV} {res : TV} (hss : List (List Nat)) (hok : fnOk P f n = true) (hl : args.length ≤ n)
    (h : ∀ cx : Cx, cx.n = n → Wk P cx (qcT P f hss res) [.code (qbN P f)] .normal (St.init args)) : qcX P f args res := holds_fn hss hok hl fun cx hcx => (h cx hcx).h
theorem qaU {P : Program} {cx : Cx} {F : Exit → St → Prop} {n fuel : Nat} {k k' : List Fr} {e e' : Exit} {st st' : St} (gs : List G) (φs : List Prop) (hn : cx.n = n) (h : goX P n fuel k e st gs = some (k', e', st', φs)) (hφ : AllP φs)
    (hr : Wk P cx F k' e' st') : Wk P cx F k e st := ⟨qkI hn h hφ hr.h⟩
def endOf (P : Program) (f : FuncId) (hss : List (List Nat)) (s : St) : Option TV := match P.funcs[f]? with | some fn => (resU P s hss fn.results.toList).bind resT | none => none
theorem ends_ret {P : Program} {f : FuncId} {hss : List (List Nat)} {res : TV} {s : St} (h : endOf P f hss s = some res) : qcT P f hss res .ret s ∧ qcT P f hss res .normal s := by
  unfold endOf at h
  unfold qcT
  split at h
  · exact ⟨h, h⟩
  · cases h
theorem qaN {P : Program} {cx : Cx} {f : FuncId} {hss : List (List Nat)} {res : TV} {n fuel : Nat} {k : List Fr} {e : Exit} {st : St} (gs : List G) (φs : List Prop) (hn : cx.n = n)
    (h : (goX P n fuel k e st gs).bind (fun r => match r.1, r.2.1 with | [], .ret => (endOf P f hss r.2.2.1).map fun v => (v, r.2.2.2) | _, _ => none) = some (res, φs)) (hφ : AllP φs) : Wk P cx (qcT P f hss res) k e st := by
  refine ⟨?_⟩
  obtain ⟨⟨k', e', st', ψ⟩, h1, h2⟩ := Option.bind_eq_some_iff.1 h
  split at h2
  · rename_i hk he
    have hk : k' = [] := hk
    have he : e' = .ret := he
    subst hk; subst he
    obtain ⟨v, h3, h4⟩ := Option.map_eq_some_iff.1 h2
    cases h4
    exact qkI hn h1 hφ (ends_ret h3).1
  · cases h2
theorem holdsR_wk {P : Program} {f : FuncId} {n : Nat} {args : List V} {F F' : List (Nat × Blk)} {res : V} (hok : okFn P f n = true) (hl : args.length ≤ n)
    (h : ∀ cx : Cx, cx.n = n → ∀ H exs, Wk P cx (EndsR P f (F' ++ H) exs res) [.code (codeOf P f)] .normal ⟨idxV 0 args, F ++ H, exs⟩) : HoldsR P f args F F' res :=
  holdsR_of hok hl fun cx hcx H exs => by
    have := qsR (h cx hcx H exs).h
    intro a w hs
    exact this a w hs
theorem holdsN_wk {P : Program} {f : FuncId} {n e sz : Nat} {args : List TV} {r : Option (List (List T))} (hok : okFn P f n = true) (hl : args.length ≤ n)
    (h : ∀ cx : Cx, cx.n = n → Wk P cx (EndsN P f e sz r) [.code (codeOf P f)] .normal (St.init args)) : HoldsN P f args e sz r :=
  holdsN_of hok hl fun cx hcx => by
    have := qsR (h cx hcx).h
    intro a w hs
    exact this a w hs
def endN (P : Program) (f : FuncId) (s : St) : Option (Option (Nat × Nat × Nat × List (List T))) := match endV P f s with
  | some (.c .nil) => some none
  | some (.c (.row j 0 n)) => match s.hp.lookup j with
    | some (.row e sz es 0) => some (some (n, e, sz, es))
    | _ => none
  | _ => none
theorem wk_retN0 {P : Program} {cx : Cx} {f : FuncId} {n' e sz fuel : Nat} {k : List Fr} {en : Exit} {st : St} (gs : List G) (φs : List Prop) (hn : cx.n = n')
    (h : (goX P n' fuel k en st gs).bind (fun q => match q.1, q.2.1 with | [], .ret => (endN P f q.2.2.1).map fun v => (v, q.2.2.2) | _, _ => none) = some (none, φs)) (hφ : AllP φs) : Wk P cx (EndsN P f e sz none) k en st := by
  refine ⟨?_⟩
  obtain ⟨⟨k', e', st', ψ⟩, h1, h2⟩ := Option.bind_eq_some_iff.1 h
  split at h2
  · rename_i hk he
    have hk : k' = [] := hk
    have he : e' = .ret := he
    subst hk; subst he
    obtain ⟨v, h3, h4⟩ := Option.map_eq_some_iff.1 h2
    cases h4
    refine qkI hn h1 hφ ⟨.inl rfl, ?_⟩
    have h3 : endN P f st' = some none := h3
    unfold endN at h3
    split at h3
    · assumption
    · split at h3 <;> cases h3
    · cases h3
  · cases h2
theorem wk_retN1 {P : Program} {cx : Cx} {f : FuncId} {n' e sz m fuel : Nat} {es0 es : List (List T)} {k : List Fr} {en : Exit} {st : St} (gs : List G) (φs : List Prop) (hn : cx.n = n')
    (h : (goX P n' fuel k en st gs).bind (fun q => match q.1, q.2.1 with | [], .ret => (endN P f q.2.2.1).map fun v => (v, q.2.2.2) | _, _ => none) = some (some (m, e, sz, es0), φs)) (hφ : AllP φs)
    (hm : m = es.length) (he : es0.take m = es) : Wk P cx (EndsN P f e sz (some es)) k en st := by
  refine ⟨?_⟩
  obtain ⟨⟨k', e', st', ψ⟩, h1, h2⟩ := Option.bind_eq_some_iff.1 h
  split at h2
  · rename_i hk hen
    have hk : k' = [] := hk
    have hen : e' = .ret := hen
    subst hk; subst hen
    obtain ⟨v, h3, h4⟩ := Option.map_eq_some_iff.1 h2
    cases h4
    refine qkI hn h1 hφ ⟨.inl rfl, ?_⟩
    have h3 : endN P f st' = some (some (m, e, sz, es0)) := h3
    unfold endN at h3
    split at h3
    · cases h3
    · rename_i j n2 hv
      split at h3
      · rename_i hl
        cases h3
        subst hm
        exact ⟨j, es0, hv, hl, he⟩
      · cases h3
    · cases h3
  · cases h2
theorem dup_look {β : Type} (j : Nat) (a b : β) (H : List (Nat × β)) (k : Nat) : ((j, a) :: (j, b) :: H).lookup k = ((j, a) :: H).lookup k := by
  simp only [qcS]
  split <;> rfl
theorem wk_retR {P : Program} {cx : Cx} {f : FuncId} {hp : List (Nat × Blk)} {exs : List V} {res : V} {n fuel : Nat} {k : List Fr} {e : Exit} {st : St} (gs : List G) (φs : List Prop) (hp' : List (Nat × Blk)) (hn : cx.n = n)
    (h : (goX P n fuel k e st gs).bind (fun r => match r.1, r.2.1 with | [], .ret => (endV P f r.2.2.1).map fun v => (v, r.2.2.1.hp, r.2.2.1.ex, r.2.2.2) | _, _ => none) = some (res, hp', exs, φs)) (hφ : AllP φs)
    (hhp : ∀ k, hp'.lookup k = hp.lookup k) : Wk P cx (EndsR P f hp exs res) k e st := by
  refine ⟨?_⟩
  obtain ⟨⟨k', e', st', ψ⟩, h1, h2⟩ := Option.bind_eq_some_iff.1 h
  split at h2
  · rename_i hk he
    have hk : k' = [] := hk
    have he : e' = .ret := he
    subst hk; subst he
    obtain ⟨v, h3, h4⟩ := Option.map_eq_some_iff.1 h2
    cases h4
    exact qkI hn h1 hφ ⟨.inl rfl, hhp, rfl, h3⟩
  · cases h2
def rowRes (j : Nat) : Option Nat → V
  | none => .c .nil
  | some n => .c (.row j 0 n)
theorem qaK {α : Type} {b : Bool} {x y : Option α} {r : α} (h : (bif b then x else y) = some r) : (b = true ∧ x = some r) ∨ (b = false ∧ y = some r) := by
  cases b with
  | true => exact .inl ⟨rfl, h⟩
  | false => exact .inr ⟨rfl, h⟩
def gd {α : Type} (p : Prop) [Decidable p] (x : Option α) : Option α := if p then x else none
theorem qbE {α : Type} {p : Prop} [Decidable p] {x : Option α} {r : α} (h : gd p x = some r) : p ∧ x = some r := by
  unfold gd at h
  split at h
  · exact ⟨by assumption, h⟩
  · cases h
theorem qaH {α β : Type} {x : Option α} {f : α → Option β} {r : β} (h : x.bind f = some r) : ∃ a, x = some a ∧ f a = some r := Option.bind_eq_some_iff.1 h
def gi {α : Type} (l : List α) (i : Int) : Option α := if 0 ≤ i then l[i.toNat]? else none
theorem gi_map {α : Type} {l : List α} {i : Int} {x : α} (h : gi l i = some x) (ce : α → List T) : 0 ≤ i ∧ (l.map ce)[i.toNat]? = some (ce x) := by
  unfold gi at h
  split at h
  · exact ⟨by assumption, by rw [List.getElem?_map, h]; rfl⟩
  · cases h
theorem qc4 {α β : Type} (l : List α) (f : α → β) : (l.map f).length = l.length := List.length_map f
theorem qa0 {α : Type} {l : List α} {i : Int} {x : α} (h : gi l i = some x) : 0 ≤ i := (gi_map h fun _ => []).1
theorem qbH {α : Type} {l : List α} {i : Int} {x : α} (ce : α → List T) (h : gi l i = some x) : (l.map ce)[i.toNat]? = some (ce x) := (gi_map h ce).2
theorem qcG {α : Type} {l : List α} {i : Int} {x : α} (ce : α → List T) (h : gi l i = some x) : (l.map ce)[0 + i.toNat]? = some (ce x) := by rw [Nat.zero_add]; exact qbH ce h
theorem gi_lt {α : Type} {l : List α} {i : Int} {x : α} (h : gi l i = some x) : i < (l.length : Int) := by
  have h0 := qa0 h
  unfold gi at h
  rw [if_pos h0] at h
  have := (List.getElem?_eq_some_iff.1 h).1
  omega
theorem qcH {α : Type} {l : List α} {i : Int} {x : α} {n : Nat} (h : gi l i = some x) (e : l.length = n) : i < (n : Int) := e ▸ gi_lt h
theorem qc7 {α : Type} (l : List α) (i : Nat) (y : α) (ce : α → List T) : (l.map ce).set (0 + i) (ce y) = (l.set i y).map ce := by rw [Nat.zero_add, List.map_set]
theorem qf1 {α : Type} (n : Nat) (z : α) (ce : α → List T) : List.replicate n (ce z) = (List.replicate n z).map ce := by simp
theorem tk_map {α : Type} (l : List α) (h k : Nat) (ce : α → List T) : ((l.map ce).take h).drop k = ((l.take h).drop k).map ce := by simp [List.map_take, List.map_drop]
theorem tk0_map {α : Type} (l : List α) (h : Nat) (ce : α → List T) : ((l.map ce).take h).drop 0 = (l.take h).map ce := by simp [List.map_take]
theorem dt_map {α : Type} (l : List α) (h k : Nat) (ce : α → List T) : ((l.map ce).drop h).take k = ((l.drop h).take k).map ce := by simp [List.map_take, List.map_drop]
theorem qbI {α : Type} (l : List α) (n : Nat) (ce : α → List T) (e : n = l.length) : ((l.map ce).drop 0).take n = l.map ce := by subst e; simp [List.take_of_length_le]
theorem qmF {α : Type} (l m : List α) (ce : α → List T) : l.map ce ++ m.map ce = (l ++ m).map ce := by simp
theorem ln_le {α : Type} {l : List α} {n : Nat} (ce : α → List T) (h : n ≤ l.length) : n ≤ (l.map ce).length := by simpa using h
theorem qaT {α : Type} (l : List α) (ce : α → List T) : (((l.map ce).length : Nat) : Int) = (l.length : Int) := by simp
def gio {α : Type} (l : List α) (off len : Nat) (i : Int) : Option α := if 0 ≤ i ∧ i < (len : Int) then l[off + i.toNat]? else none
theorem gio_nn {α : Type} {l : List α} {off len : Nat} {i : Int} {x : α} (h : gio l off len i = some x) : 0 ≤ i := by
  unfold gio at h
  split at h
  · rename_i e; exact e.1
  · cases h
theorem gio_lt {α : Type} {l : List α} {off len : Nat} {i : Int} {x : α} (h : gio l off len i = some x) : i < (len : Int) := by
  unfold gio at h
  split at h
  · rename_i e; exact e.2
  · cases h
theorem gio_at {α : Type} {l : List α} {off len : Nat} {i : Int} {x : α} (ce : α → List T) (h : gio l off len i = some x) : (l.map ce)[off + i.toNat]? = some (ce x) := by
  unfold gio at h
  split at h
  · rw [List.getElem?_map, h]; rfl
  · cases h
theorem set_mapo {α : Type} (l : List α) (k : Nat) (y : α) (ce : α → List T) : (l.map ce).set k (ce y) = (l.set k y).map ce := by rw [List.map_set]
theorem qtA {α : Type} {l : List α} {i : Int} {x : α} (h : gi l i = some x) : l[i.toNat]? = some x := by
  have h0 := qa0 h
  unfold gi at h
  rw [if_pos h0] at h
  exact h
def qd6 {α : Type} (l : List α) (off len : Nat) (m : List α) : List α := if off + len ≤ l.length then qbY l off (m.take (min m.length len)) else l
@[simp] theorem copied_length {α : Type} (l : List α) (off len : Nat) (m : List α) : (qd6 l off len m).length = l.length := by
  unfold qd6
  split
  · simp only [qbY, List.length_append, List.length_take, List.length_drop]; omega
  · rfl
theorem qrU {α : Type} (l : List α) (off len : Nat) (m : List α) (ce : α → List T) (h : off + len ≤ l.length) : qbY (l.map ce) off ((m.map ce).take (min (m.map ce).length len)) = (qd6 l off len m).map ce := by
  simp only [qd6, if_pos h, qbY, List.length_map, List.map_append, List.map_take, List.map_drop, List.length_take]
theorem room {n b : Nat} (hb : 0 < b) (h : n * b ≤ 140737488355328) : n ≤ maxLen := by
  have h1 : n ≤ n * b := Nat.le_mul_of_pos_right _ hb
  have h2 : (140737488355328 : Nat) ≤ maxLen := by decide
  omega
end Go.Am
namespace Go.Am.X
def Ev {α : Type} (f : Nat → Option α) (r : α) : Prop := ∃ K0, ∀ K, K0 ≤ K → f K = some r
theorem qa3 {α : Type} (r : α) : Ev (fun _ => some r) r := ⟨0, fun _ _ => rfl⟩
theorem qaP {α β : Type} {f : Nat → Option α} {g : Nat → α → Option β} {x : α} {r : β} (hf : Ev f x) (hg : Ev (fun K => g K x) r) : Ev (fun K => (f K).bind (g K)) r := by
  obtain ⟨a, ha⟩ := hf
  obtain ⟨b, hb⟩ := hg
  exact ⟨max a b, fun K hK => by show (f K).bind (g K) = some r; rw [ha K (by omega), Option.bind_some]; exact hb K (by omega)⟩
theorem qb6 {α β : Type} {f : Option α} {g : Nat → α → Option β} {x : α} {r : β} (hf : f = some x) (hg : Ev (fun K => g K x) r) : Ev (fun K => f.bind (g K)) r := by
  subst hf; exact hg
theorem qaS {α : Type} {f : Nat → Option α} {r : α} (h : Ev (fun K => f (K + 1)) r) : Ev f r := by
  obtain ⟨a, ha⟩ := h
  exact ⟨a + 1, fun K hK => by
    obtain ⟨k, rfl⟩ : ∃ k, K = k + 1 := ⟨K - 1, by omega⟩
    exact ha k (by omega)⟩
theorem qjP {α : Type} {p : Prop} [Decidable p] {f : Nat → Option α} {r : α} (hp : p) (h : Ev f r) : Ev (fun K => gd p (f K)) r := by
  have : (fun K => gd p (f K)) = f := by funext K; exact if_pos hp
  rw [this]; exact h
theorem ev_t {α : Type} {b : Bool} {f g : Nat → Option α} {r : α} (hb : b = true) (h : Ev f r) : Ev (fun K => bif b then f K else g K) r := by subst hb; exact h
theorem ev_f {α : Type} {b : Bool} {f g : Nat → Option α} {r : α} (hb : b = false) (h : Ev g r) : Ev (fun K => bif b then f K else g K) r := by subst hb; exact h
theorem ev_if {α : Type} {b : Bool} {f g : Nat → Option α} {r : α} (ht : b = true → Ev f r) (hf : b = false → Ev g r) : Ev (fun K => bif b then f K else g K) r := by cases b; exact hf rfl; exact ht rfl
theorem ev_det {α : Type} {f : Nat → Option α} {r s : α} (h : Ev f r) (h' : Ev f s) : r = s := by
  obtain ⟨a, ha⟩ := h
  obtain ⟨b, hb⟩ := h'
  have h1 := ha (max a b) (by omega)
  have h2 := hb (max a b) (by omega)
  rw [h1] at h2; exact Option.some.inj h2
theorem qe5 {α : Type} {f : Nat → Option α} {r s : α} (h : Ev f r) (e : r = s) : Ev f s := e ▸ h
theorem w_u32 (x : Int) : wU3 x = x % 4294967296 := rfl
theorem w_u32k (x : Int) : IntKind.wrap .u32 x = x % 4294967296 := rfl
theorem w_u64k (x : Int) : IntKind.wrap .u64 x = x % 18446744073709551616 := rfl
theorem qsS (x : Int) : wU6 x = x % 18446744073709551616 := rfl
theorem w_u8 (x : Int) : wU1 x = x % 256 := rfl
theorem qdN {x : Int} (h : -9223372036854775808 ≤ x ∧ x < 9223372036854775808) : wI6 x = x := by
  show (if (true && decide (x % 18446744073709551616 ≥ 9223372036854775808)) = true then x % 18446744073709551616 - 18446744073709551616 else x % 18446744073709551616) = x
  split
  · rename_i h1; simp at h1; omega
  · rename_i h1; simp at h1; omega
theorem w_i8 {x : Int} (h : -128 ≤ x ∧ x < 128) : IntKind.i8.wrap x = x := by
  show (if (true && decide (x % 256 ≥ 128)) = true then x % 256 - 256 else x % 256) = x
  split
  · rename_i h1; simp at h1; omega
  · rename_i h1; simp at h1; omega
theorem w_i32 {x : Int} (h : -2147483648 ≤ x ∧ x < 2147483648) : IntKind.i32.wrap x = x := by
  show (if (true && decide (x % 4294967296 ≥ 2147483648)) = true then x % 4294967296 - 4294967296 else x % 4294967296) = x
  split
  · rename_i h1; simp at h1; omega
  · rename_i h1; simp at h1; omega
theorem shr_eq (k : IntKind) (x n : Int) : qdG k x n = x / 2 ^ (min n.toNat k.bits) := by
  unfold qdG; exact Int.fdiv_eq_ediv_of_nonneg _ (Int.le_of_lt (Int.pow_pos (by decide)))
theorem shr64_32 (x : Int) : qdG .u64 x 32 = x / 4294967296 := shr_eq _ _ _
theorem shr_le {k : IntKind} {x n : Int} (h0 : 0 ≤ n) (h : n ≤ k.bits) : qdG k x n = x / 2 ^ n.toNat := by rw [shr_eq, Nat.min_eq_left (by omega)]
theorem shl_le {k : IntKind} {x n : Int} (h0 : 0 ≤ n) (h : n ≤ k.bits) : qgQ k x n = k.wrap (x * 2 ^ n.toNat) := by unfold qgQ; rw [Nat.min_eq_left (by omega)]
theorem gi_ok {α : Type} {l : List α} {i : Int} (h0 : 0 ≤ i) (h : i.toNat < l.length) : gi l i = some l[i.toNat] := by
  unfold gi; rw [if_pos h0]; exact List.getElem?_eq_getElem h
theorem qc0 {α : Type} {l : List α} {i : Nat} (h : i < l.length) : gi l (i : Int) = some l[i] := by
  unfold gi; rw [if_pos (by omega)]; exact List.getElem?_eq_getElem h
theorem gi_get {α : Type} {l : List α} {i : Nat} {x : α} (h : l[i]? = some x) : gi l (i : Int) = some x := by
  unfold gi; rw [if_pos (by omega)]; exact h
theorem gio_get {α : Type} {l : List α} {off len i : Nat} {x : α} (hi : i < len) (h : l[off + i]? = some x) : gio l off len (i : Int) = some x := by
  unfold gio; rw [if_pos (by omega)]; exact h
def Dig (l : List Int) : Prop := ∀ x ∈ l, 0 ≤ x ∧ x < 4294967296
def val : List Int → Int
  | [] => 0
  | x :: l => x + 4294967296 * val l
@[simp] theorem val_nil : val [] = 0 := rfl
@[simp] theorem qnS (x : Int) (l : List Int) : val (x :: l) = x + 4294967296 * val l := rfl
theorem dig_nil : Dig [] := fun _ h => by cases h
theorem qi1 {x : Int} {l : List Int} : Dig (x :: l) ↔ (0 ≤ x ∧ x < 4294967296) ∧ Dig l := by
  unfold Dig; simp
theorem dig_append {a b : List Int} : Dig (a ++ b) ↔ Dig a ∧ Dig b := by
  unfold Dig; simp only [List.mem_append]
  exact ⟨fun h => ⟨fun x hx => h x (.inl hx), fun x hx => h x (.inr hx)⟩, fun h x hx => hx.elim (h.1 x) (h.2 x)⟩
theorem dig_rep {n : Nat} {x : Int} (h : 0 ≤ x ∧ x < 4294967296) : Dig (List.replicate n x) := fun y hy => by rw [(List.mem_replicate.1 hy).2]; exact h
theorem qh0 {a : List Int} (h : Dig a) (n : Nat) : Dig (a.take n) := fun x hx => h x (List.mem_of_mem_take hx)
theorem dig_drop {a : List Int} (h : Dig a) (n : Nat) : Dig (a.drop n) := fun x hx => h x (List.mem_of_mem_drop hx)
theorem qfE {a : List Int} (h : Dig a) {i : Nat} (hi : i < a.length) : 0 ≤ a[i] ∧ a[i] < 4294967296 := h _ (List.getElem_mem hi)
theorem qnD {a : List Int} (h : Dig a) (i : Nat) {x : Int} (hx : 0 ≤ x ∧ x < 4294967296) : Dig (a.set i x) := fun y hy => (List.mem_or_eq_of_mem_set hy).elim (h y) (fun e => e ▸ hx)
theorem qbB : ∀ {l : List Int}, Dig l → 0 ≤ val l
  | [], _ => by simp
  | x :: l, h => by have := qbB (qi1.1 h).2; have := (qi1.1 h).1; simp; omega
theorem qjV : ∀ {l : List Int}, Dig l → val l < 4294967296 ^ l.length
  | [], _ => by simp
  | x :: l, h => by
    have h1 := qjV (qi1.1 h).2
    have h2 := (qi1.1 h).1
    simp only [qnS, List.length_cons, Int.pow_succ]
    omega
theorem qi2 : ∀ (a b : List Int), val (a ++ b) = val a + 4294967296 ^ a.length * val b
  | [], b => by simp
  | x :: a, b => by
    simp only [List.cons_append, qnS, List.length_cons, qi2 a b, Int.pow_succ]
    grind
theorem val_rep (n : Nat) : val (List.replicate n 0) = 0 := by
  induction n with
  | zero => rfl
  | succ n ih => simp [List.replicate_succ, ih]
theorem val_zero : ∀ {l : List Int}, (∀ x ∈ l, x = 0) → val l = 0
  | [], _ => rfl
  | x :: l, h => by rw [qnS, val_zero (fun y hy => h y (List.mem_cons_of_mem _ hy)), h x (List.mem_cons_self ..)]; rfl
theorem qmH (a : List Int) (n : Nat) (h : n ≤ a.length) : val a = val (a.take n) + 4294967296 ^ n * val (a.drop n) := by
  have := qi2 (a.take n) (a.drop n)
  rw [List.take_append_drop, List.length_take, Nat.min_eq_left h] at this
  exact this
theorem qoL : ∀ {a : List Int} {i : Nat} (h : i < a.length) (x : Int), val (a.set i x) = val a + 4294967296 ^ i * (x - a[i])
  | y :: a, 0, _, x => by simp; omega
  | y :: a, i + 1, h, x => by
    have := qoL (a := a) (i := i) (by simpa using h) x
    simp only [List.set_cons_succ, qnS, this, List.getElem_cons_succ, Int.pow_succ]
    grind
theorem qrV {m n : Nat} (h : m ≤ n) : (4294967296 : Int) ^ m ≤ 4294967296 ^ n := by
  obtain ⟨k, rfl⟩ := Nat.exists_eq_add_of_le h
  rw [Int.pow_add]
  have h1 : (0 : Int) < 4294967296 ^ m := Int.pow_pos (by decide)
  have h2 : (0 : Int) < 4294967296 ^ k := Int.pow_pos (by decide)
  have := Int.mul_le_mul_of_nonneg_left (show (1 : Int) ≤ 4294967296 ^ k from h2) (Int.le_of_lt h1)
  rw [Int.mul_one] at this; exact this
theorem qfA (n : Nat) : (0 : Int) < 4294967296 ^ n := Int.pow_pos (by decide)
def digN (n : Nat) : List Int := if n = 0 then [] else ((n % 4294967296 : Nat) : Int) :: digN (n / 4294967296)
def digs (z : Int) : List Int := digN z.toNat
theorem digN_zero : digN 0 = [] := by rw [digN, if_pos rfl]
theorem digN_pos {n : Nat} (h : n ≠ 0) : digN n = ((n % 4294967296 : Nat) : Int) :: digN (n / 4294967296) := by rw [digN, if_neg h]
theorem dig_digN (n : Nat) : Dig (digN n) := by
  induction n using Nat.strongRecOn with
  | ind n ih =>
    by_cases h : n = 0
    · rw [h, digN_zero]; exact dig_nil
    · rw [digN_pos h, qi1]; exact ⟨by omega, ih _ (by omega)⟩
theorem val_digN (n : Nat) : val (digN n) = n := by
  induction n using Nat.strongRecOn with
  | ind n ih =>
    by_cases h : n = 0
    · rw [h, digN_zero]; rfl
    · rw [digN_pos h, qnS, ih _ (by omega)]; omega
theorem qdT (z : Int) : Dig (digs z) := dig_digN _
theorem qe6 {z : Int} (h : 0 ≤ z) : val (digs z) = z := by unfold digs; rw [val_digN]; omega
theorem qfV : digs 0 = [] := digN_zero
theorem digs_cons {z : Int} (h : 0 < z) : digs z = z % 4294967296 :: digs (z / 4294967296) := by
  unfold digs
  rw [digN_pos (by omega)]
  congr 1
  · omega
  · congr 1; omega
theorem qjY {z : Int} (h : 0 ≤ z) : digs z = [] ↔ z = 0 := by
  constructor
  · intro e
    have := qe6 h
    rw [e] at this; exact this.symm
  · rintro rfl; exact qfV
theorem qo0 {z : Int} {n : Nat} (h : z < 4294967296 ^ n) : (digs z).length ≤ n := by
  induction n generalizing z with
  | zero => unfold digs; rw [show z.toNat = 0 by simp at h; omega, digN_zero]; simp
  | succ n ih =>
    by_cases hz : 0 < z
    · rw [digs_cons hz, List.length_cons]
      have := ih (z := z / 4294967296) (by rw [Int.pow_succ] at h; omega)
      omega
    · unfold digs; rw [show z.toNat = 0 by omega, digN_zero]; simp
def Can : List Int → Prop
  | [] => True
  | x :: l => (0 ≤ x ∧ x < 4294967296) ∧ Can l ∧ (l = [] → x ≠ 0)
theorem can_pos : ∀ {l : List Int}, Can l → 0 ≤ val l ∧ (l ≠ [] → 0 < val l)
  | [], _ => ⟨by simp, fun h => absurd rfl h⟩
  | x :: l, h => by
    have h1 := can_pos h.2.1
    obtain ⟨h2, h3, h4⟩ := h
    by_cases hl : l = []
    · subst hl; have := h4 rfl; simp; omega
    · have := h1.2 hl; simp; omega
theorem digs_of_can : ∀ {l : List Int}, Can l → digs (val l) = l
  | [], _ => qfV
  | x :: l, h => by
    have h1 := can_pos h
    rw [digs_cons (h1.2 (by simp))]
    have h2 := can_pos h.2.1
    obtain ⟨h3, h4, h5⟩ := h
    rw [show val (x :: l) % 4294967296 = x by simp; omega, show val (x :: l) / 4294967296 = val l by simp; omega, digs_of_can h4]
theorem can_digN (n : Nat) : Can (digN n) := by
  induction n using Nat.strongRecOn with
  | ind n ih =>
    by_cases h : n = 0
    · rw [h, digN_zero]; trivial
    · rw [digN_pos h]
      refine ⟨by omega, ih _ (by omega), fun e => ?_⟩
      by_cases h2 : n / 4294967296 = 0
      · omega
      · rw [digN_pos h2] at e; cases e
theorem qv2 (z : Int) : Can (digs z) := can_digN _
theorem can_of_last : ∀ {l : List Int}, Dig l → (∀ x, l.getLast? = some x → x ≠ 0) → Can l
  | [], _, _ => trivial
  | [x], h, hl => ⟨(qi1.1 h).1, trivial, fun _ => hl x rfl⟩
  | x :: y :: l, h, hl => ⟨(qi1.1 h).1, can_of_last (qi1.1 h).2 (fun z hz => hl z (by rw [List.getLast?_cons_cons]; exact hz)), fun e => by cases e⟩
theorem can_last : ∀ {l : List Int}, Can l → ∀ hl : l ≠ [], l.getLast hl ≠ 0
  | [x], h, _ => h.2.2 rfl
  | x :: y :: l, h, _ => by rw [List.getLast_cons (by simp)]; exact can_last h.2.1 (by simp)
theorem can_dig : ∀ {l : List Int} (_ : Can l), Dig l
  | [], _ => dig_nil
  | _ :: _, h => qi1.2 ⟨h.1, can_dig h.2.1⟩
theorem can_iff {l : List Int} : Can l ↔ digs (val l) = l := ⟨digs_of_can, fun h => h ▸ qv2 _⟩
theorem can_ge : ∀ {l : List Int}, Can l → l ≠ [] → 4294967296 ^ (l.length - 1) ≤ val l
  | [x], h, _ => by have := h.2.2 rfl; have := h.1; simp; omega
  | x :: y :: l, h, _ => by
    have h1 := can_ge h.2.1 (by simp)
    have h2 := h.1
    simp only [List.length_cons, Nat.add_sub_cancel, qnS] at h1 ⊢
    rw [Int.pow_succ]
    omega
theorem digs_len_lt {z : Int} {n : Nat} (h0 : 0 ≤ z) (h : (digs z).length ≤ n) : z < 4294967296 ^ n := by
  have h1 := qjV (qdT z)
  rw [qe6 h0] at h1
  exact Int.lt_of_lt_of_le h1 (qrV h)
theorem digs_inj {x y : Int} (hx : 0 ≤ x) (hy : 0 ≤ y) (h : digs x = digs y) : x = y := by rw [← qe6 hx, ← qe6 hy, h]
theorem digs_pad : ∀ {a : List Int}, Dig a → a = digs (val a) ++ List.replicate (a.length - (digs (val a)).length) 0
  | [], _ => by simp [qfV]
  | x :: l, h => by
    have h1 := digs_pad (qi1.1 h).2
    have h2 := (qi1.1 h).1
    have h3 := qbB (qi1.1 h).2
    by_cases hz : val (x :: l) = 0
    · rw [hz, qfV]
      simp only [qnS] at hz
      have hx : x = 0 := by omega
      have hl : val l = 0 := by omega
      rw [hl, qfV] at h1
      simp only [List.nil_append, List.length_nil, Nat.sub_zero] at h1 ⊢
      subst hx
      rw [List.length_cons, List.replicate_succ, ← h1]
    · have hp : 0 < val (x :: l) := by have := qbB h; omega
      rw [digs_cons hp, show val (x :: l) % 4294967296 = x by simp; omega, show val (x :: l) / 4294967296 = val l by simp; omega]
      rw [List.cons_append, List.length_cons, List.length_cons, Nat.add_sub_add_right, ← h1]
theorem qd4 {a : List Int} (h : Dig a) : (digs (val a)).length ≤ a.length := qo0 (qjV h)
end Go.Am.X
namespace Go.Am.X
abbrev vi (k : IntKind) (n : Int) : V := .c (C.t (T.int k n))
abbrev vl {α : Type} (sz : Nat) (l : List α) (f : α → List T) : V := .c (C.t (T.sl sz (l.map f)))
abbrev tl {α : Type} (sz : Nat) (l : List α) (f : α → List T) : TV := .c (T.sl sz (l.map f))
abbrev ti (k : IntKind) (n : Int) : TV := .c (T.int k n)
def qaC (x : Int) : List T := [T.int .u32 x]
def qaG (x : List Int) : List T := [T.sl 1 (x.map qaC)]
def ce_u64 (x : Int) : List T := [T.int .u64 x]
def ce_bool (x : Bool) : List T := [T.bool x]
structure qaB where
  Neg : Bool
  Abs : (List Int)
def qaA (x : qaB) : List T := [(T.bool x.Neg), (T.sl 1 (x.Abs.map qaC))]
def qeT (x : Int) : List T := [T.int .i64 x]
def qaD (x : List qaB) : List T := [T.sl 2 (x.map qaA)]
def ce_Li64 (x : List Int) : List T := [T.sl 1 (x.map qeT)]
def ce_LLu32 (x : List (List Int)) : List T := [T.sl 1 (x.map qaG)]
def ce_LLinteger_Int (x : List (List qaB)) : List T := [T.sl 1 (x.map qaD)]
structure qeW where
  e0 : (List (List qaB))
  e1 : (List (List qaB))
def qfL (x : qeW) : List T := [(T.sl 1 (x.e0.map qaD)), (T.sl 1 (x.e1.map qaD))]
def ce_u8 (x : Int) : List T := [T.int .u8 x]
def ce_i8 (x : Int) : List T := [T.int .i8 x]
structure A3_i8 where
  e0 : Int
  e1 : Int
  e2 : Int
def ce_A3_i8 (x : A3_i8) : List T := [(T.int .i8 x.e0), (T.int .i8 x.e1), (T.int .i8 x.e2)]
def ce_LA3_i8 (x : List A3_i8) : List T := [T.sl 3 (x.map ce_A3_i8)]
def qbQ : List Int := [0, 1, 2, 2, 3, 3, 3, 3, 4, 4, 4, 4, 4, 4, 4, 4, 5, 5, 5, 5, 5, 5, 5, 5, 5, 5, 5, 5, 5, 5, 5, 5, 6, 6, 6, 6, 6, 6, 6, 6, 6, 6, 6, 6, 6, 6, 6, 6, 6, 6, 6, 6, 6, 6, 6, 6, 6, 6, 6, 6, 6, 6, 6, 6, 7, 7, 7, 7, 7, 7, 7, 7, 7, 7, 7, 7, 7, 7, 7, 7, 7, 7, 7, 7, 7, 7, 7, 7, 7, 7, 7, 7, 7, 7, 7, 7, 7, 7, 7, 7, 7, 7, 7, 7, 7, 7, 7, 7, 7, 7, 7, 7, 7, 7, 7, 7, 7, 7, 7, 7, 7, 7, 7, 7, 7, 7, 7, 7, 8, 8, 8, 8, 8, 8, 8, 8, 8, 8, 8, 8, 8, 8, 8, 8, 8, 8, 8, 8, 8, 8, 8, 8, 8, 8, 8, 8, 8, 8, 8, 8, 8, 8, 8, 8, 8, 8, 8, 8, 8, 8, 8, 8, 8, 8, 8, 8, 8, 8, 8, 8, 8, 8, 8, 8, 8, 8, 8, 8, 8, 8, 8, 8, 8, 8, 8, 8, 8, 8, 8, 8, 8, 8, 8, 8, 8, 8, 8, 8, 8, 8, 8, 8, 8, 8, 8, 8, 8, 8, 8, 8, 8, 8, 8, 8, 8, 8, 8, 8, 8, 8, 8, 8, 8, 8, 8, 8, 8, 8, 8, 8, 8, 8, 8, 8, 8, 8, 8, 8, 8, 8, 8, 8, 8, 8, 8, 8]
end Go.Am.X
namespace Go.Am.X
open Go.Proofs.Try (prog)
inductive qn0 where
  | c0 (a : (List Int))
  | c1 (a : (List Int)) (n : Int)
  | c2 (a : (List Int)) (n : Int)
def qcL : Nat → qn0 → Option (List Int)
  | 0, _ => none
  | K + 1, .c0 a =>
    qcL K (.c1 a (a.length : Int))
  | K + 1, .c1 a n =>
    bif (decide ((0 : Int) < n)) then
      (gi a (wI6 (n - (1 : Int)))).bind fun x2 =>
      bif (decide (x2 = (0 : Int))) then
        qcL K (.c1 a (wI6 (n - (1 : Int))))
      else
        qcL K (.c2 a n)
    else
      qcL K (.c2 a n)
  | _ + 1, .c2 a n =>
    bif (decide (n = (0 : Int))) then
      some []
    else
      gd (0 ≤ n ∧ 0 ≤ n.toNat ∧ n.toNat ≤ a.length) <|
      some (a.take n.toNat)
def qb5 (K : Nat) (a : (List Int)) : Option (List Int) := qcL K (.c0 a)
noncomputable def qhK : Code := qbN prog 144
noncomputable def natural_trim_pos : qn0 → List Fr
  | .c0 .. => [.code qhK]
  | .c1 .. => [.code (.loop (atC qhK [1,1,0,0,0])), .blk 0, .code (atC qhK [1,1,1])]
  | .c2 .. => [.code (atC qhK [1,1,1,0,0]), .code (atC qhK [1,1,1,0,1]), .code (atC qhK [1,1,1,1])]
def natural_trim_st : qn0 → St
  | .c0 a => St.init [(tl 1 a qaC)]
  | .c1 a n => ⟨[(0, vl 1 a qaC), (3, vi .i64 n)], [], []⟩
  | .c2 a n => ⟨[(0, vl 1 a qaC), (3, vi .i64 n)], [], []⟩
def qr0 (cx : Cx) (c : qn0) (r : (List Int)) : Prop := Wk prog cx (qcT prog 144 [[1]] (tl 1 r qaC)) (natural_trim_pos c) .normal (natural_trim_st c)
abbrev qr1 (K : Nat) : Prop := ∀ c r, qcL K c = some r → ∀ cx : Cx, cx.n = 23 → qr0 cx c r
theorem natural_trim_c0 {K} (ih : qr1 K) {cx} (hn : cx.n = 23) {a} {r} (h : qcL (K + 1) (.c0 a) = some r) : qr0 cx (.c0 a) r := by
  rw [qcL] at h
  exact qaU (fuel := 56) [rgG [oo], rgG [oo, opI (.ln (a.length : Int)), oo], .pre [.keep [0,3] []]] _ hn (by kernel_rfl) (aC (qaT a qaC) <| aN) (ih _ _ h cx hn)
theorem natural_trim_c1 {K} (ih : qr1 K) {cx} (hn : cx.n = 23) {a n} {r} (h : qcL (K + 1) (.c1 a n) = some r) : qr0 cx (.c1 a n) r := by
  rw [qcL] at h
  rcases qaK h with ⟨h1, h⟩ | ⟨h1, h⟩
  · skip
    obtain ⟨x2, h3, h⟩ := qaH h
    rcases qaK h with ⟨h4, h⟩ | ⟨h4, h⟩
    · skip
      exact qaU (fuel := 74) [.go, rgG [oo, oo, oo, .sb 8 true, oo, oo, oo, opI (.ix (qaC x2)), oo, oo, oo], .br true, rgG [oo, oo, oo], .pre [.keep [0,3] []]] _ hn (by kernel_rfl) (aC h1 <| aC (qa0 h3) <| aC (qbH qaC h3) <| aC h4 <| aN) (ih _ _ h cx hn)
    · skip
      exact qaU (fuel := 72) [.go, rgG [oo, oo, oo, .sb 8 true, oo, oo, oo, opI (.ix (qaC x2)), oo, oo, oo], .br false, .pre [.keep [0,3] []]] _ hn (by kernel_rfl) (aC h1 <| aC (qa0 h3) <| aC (qbH qaC h3) <| aC h4 <| aN) (ih _ _ h cx hn)
  · skip
    exact qaU (fuel := 72) [.go, rgG [oo, oo, oo, .sb 8 false, oo, oo, oo, oo, oo, oo, oo], .br false, .pre [.keep [0,3] []]] _ hn (by kernel_rfl) (aC h1 <| aC rf <| aN) (ih _ _ h cx hn)
theorem natural_trim_c2 {K} (_ : qr1 K) {cx} (hn : cx.n = 23) {a n} {r} (h : qcL (K + 1) (.c2 a n) = some r) : qr0 cx (.c2 a n) r := by
  rw [qcL] at h
  rcases qaK h with ⟨h1, h⟩ | ⟨h1, h⟩
  · skip
    have h := Option.some.inj h; subst h
    exact qaN (fuel := 60) [rgG [oo, oo], .br true, rgG [oo]] _ hn (by kernel_rfl) (aC h1 <| aN)
  · skip
    obtain ⟨h2, h⟩ := qbE h
    have h := Option.some.inj h; subst h
    exact qaN (fuel := 60) [rgG [oo, oo], .br false, rgG [oo, oo, opI (.slT 0 n.toNat ((a.take n.toNat).map qaC)), oo]] _ hn (by kernel_rfl) (aC h1 <| aC r0 <| aC (⟨h2.1, rfl⟩ : 0 ≤ n ∧ n.toNat = n.toNat) <| aC h2.2.1 <| aC (ln_le _ h2.2.2 : n.toNat ≤ (a.map qaC).length) <| aC (tk0_map _ _ _ : ((a.map qaC).take n.toNat).drop 0 = (a.take n.toNat).map qaC) <| aN)
theorem qnZ : ∀ K : Nat, qr1 K
  | 0, c, r, h => by rw [qcL] at h; cases h
  | K + 1, .c0 .., r, h => fun cx hn => natural_trim_c0 (qnZ K) hn h
  | K + 1, .c1 .., r, h => fun cx hn => natural_trim_c1 (qnZ K) hn h
  | K + 1, .c2 .., r, h => fun cx hn => natural_trim_c2 (qnZ K) hn h
theorem qaR {K : Nat} {a : (List Int)} {r : (List Int)} (h : qb5 K a = some r) : qcX prog 144 [(tl 1 a qaC)] (tl 1 r qaC) :=
  qa2 [[1]] (by kernel_rfl) (by simp) fun cx hn => qnZ K (.c0 a) r h cx hn
end Go.Am.X
namespace Go.Am.X
open Go.Proofs.Try (prog)
inductive qlD where
  | c0 (a : (List Int))
def qhL : Nat → qlD → Option (List Int)
  | 0, _ => none
  | K + 1, .c0 a =>
    (qb5 K a).bind fun x1 =>
    gd (x1.length * 4 ≤ 140737488355328) <|
    some x1
def qhH (K : Nat) (a : (List Int)) : Option (List Int) := qhL K (.c0 a)
noncomputable def natural_Normal_body : Code := qbN prog 148
noncomputable def natural_Normal_pos : qlD → List Fr
  | .c0 .. => [.code natural_Normal_body]
def natural_Normal_st : qlD → St
  | .c0 a => St.init [(tl 1 a qaC)]
def natural_Normal_S (cx : Cx) (c : qlD) (r : (List Int)) : Prop := Wk prog cx (qcT prog 148 [[1]] (tl 1 r qaC)) (natural_Normal_pos c) .normal (natural_Normal_st c)
abbrev natural_Normal_H (K : Nat) : Prop := ∀ c r, qhL K c = some r → ∀ cx : Cx, cx.n = 6 → natural_Normal_S cx c r
theorem natural_Normal_c0 {K} (_ : natural_Normal_H K) {cx} (hn : cx.n = 6) {a} {r} (h : qhL (K + 1) (.c0 a) = some r) : natural_Normal_S cx (.c0 a) r := by
  rw [qhL] at h
  obtain ⟨x1, h2, h⟩ := qaH h
  obtain ⟨h3, h⟩ := qbE h
  have h := Option.some.inj h; subst h
  exact qaN (fuel := 54) [rgG [oo], rgG [oo, opI (.call [[1]] [(tl 1 a qaC)] (tl 1 x1 qaC)), .appT (x1.map qaC), oo]] _ hn (by kernel_rfl) (aC (qaR h2) <| aC (rfl : x1.map qaC = x1.map qaC) <| aC ((qc4 _ _).symm ▸ h3 : (x1.map qaC).length * 4 ≤ 140737488355328) <| aC ((qc4 _ _).symm ▸ room (by decide) h3 : (x1.map qaC).length ≤ maxLen) <| aN)
theorem qvL : ∀ K : Nat, natural_Normal_H K
  | 0, c, r, h => by rw [qhL] at h; cases h
  | K + 1, .c0 .., r, h => fun cx hn => natural_Normal_c0 (qvL K) hn h
theorem qeI {K : Nat} {a : (List Int)} {r : (List Int)} (h : qhH K a = some r) : qcX prog 148 [(tl 1 a qaC)] (tl 1 r qaC) :=
  qa2 [[1]] (by kernel_rfl) (by simp) fun cx hn => qvL K (.c0 a) r h cx hn
end Go.Am.X
namespace Go.Am.X
open Go.Proofs.Try (prog)
inductive qlE where
  | c0 (a : (List Int))
def qhM : Nat → qlE → Option Bool
  | 0, _ => none
  | K + 1, .c0 a =>
    (qb5 K a).bind fun x1 =>
    some (decide ((x1.length : Int) = (0 : Int)))
def qkV (K : Nat) (a : (List Int)) : Option Bool := qhM K (.c0 a)
noncomputable def natural_IsZero_body : Code := qbN prog 97
noncomputable def natural_IsZero_pos : qlE → List Fr
  | .c0 .. => [.code natural_IsZero_body]
def natural_IsZero_st : qlE → St
  | .c0 a => St.init [(tl 1 a qaC)]
def natural_IsZero_S (cx : Cx) (c : qlE) (r : Bool) : Prop := Wk prog cx (qcT prog 97 [[0]] (TV.c (T.bool r))) (natural_IsZero_pos c) .normal (natural_IsZero_st c)
abbrev natural_IsZero_H (K : Nat) : Prop := ∀ c r, qhM K c = some r → ∀ cx : Cx, cx.n = 7 → natural_IsZero_S cx c r
theorem natural_IsZero_c0 {K} (_ : natural_IsZero_H K) {cx} (hn : cx.n = 7) {a} {r} (h : qhM (K + 1) (.c0 a) = some r) : natural_IsZero_S cx (.c0 a) r := by
  rw [qhM] at h
  obtain ⟨x1, h2, h⟩ := qaH h
  have h := Option.some.inj h; subst h
  exact qaN (fuel := 54) [rgG [oo], rgG [oo, opI (.call [[1]] [(tl 1 a qaC)] (tl 1 x1 qaC)), opI (.ln (x1.length : Int)), oo, oo]] _ hn (by kernel_rfl) (aC (qaR h2) <| aC (qaT x1 qaC) <| aN)
theorem qvM : ∀ K : Nat, natural_IsZero_H K
  | 0, c, r, h => by rw [qhM] at h; cases h
  | K + 1, .c0 .., r, h => fun cx hn => natural_IsZero_c0 (qvM K) hn h
theorem qfY {K : Nat} {a : (List Int)} {r : Bool} (h : qkV K a = some r) : qcX prog 97 [(tl 1 a qaC)] (TV.c (T.bool r)) :=
  qa2 [[0]] (by kernel_rfl) (by simp) fun cx hn => qvM K (.c0 a) r h cx hn
end Go.Am.X
namespace Go.Am.X
open Go.Proofs.Try (prog)
inductive qr3 where
  | c0 (n : Int)
def qmM : Nat → qr3 → Option (List Int)
  | 0, _ => none
  | K + 1, .c0 n =>
    (qb5 K ([(wU3 n), (wU3 (qdG .u64 n (32 : Int)))] : List Int)).bind fun x1 =>
    some x1
def qtY (K : Nat) (n : Int) : Option (List Int) := qmM K (.c0 n)
noncomputable def natural_Of_body : Code := qbN prog 129
noncomputable def natural_Of_pos : qr3 → List Fr
  | .c0 .. => [.code natural_Of_body]
def natural_Of_st : qr3 → St
  | .c0 n => St.init [(ti .u64 n)]
def natural_Of_S (cx : Cx) (c : qr3) (r : (List Int)) : Prop := Wk prog cx (qcT prog 129 [[1]] (tl 1 r qaC)) (natural_Of_pos c) .normal (natural_Of_st c)
abbrev natural_Of_H (K : Nat) : Prop := ∀ c r, qmM K c = some r → ∀ cx : Cx, cx.n = 10 → natural_Of_S cx c r
theorem natural_Of_c0 {K} (_ : natural_Of_H K) {cx} (hn : cx.n = 10) {n} {r} (h : qmM (K + 1) (.c0 n) = some r) : natural_Of_S cx (.c0 n) r := by
  rw [qmM] at h
  obtain ⟨x1, h2, h⟩ := qaH h
  have h := Option.some.inj h; subst h
  exact qaN (fuel := 54) [rgG [oo], rgG [oo, oo, oo, oo, oo, opI (.lit (([(wU3 n), (wU3 (qdG .u64 n (32 : Int)))] : List Int).map qaC)), .snap 8 (max 0 (0 + 2)) (([(wU3 n), (wU3 (qdG .u64 n (32 : Int)))] : List Int).map qaC), opI (.call [[1]] [(TV.c (T.sl 1 (([(wU3 n), (wU3 (qdG .u64 n (32 : Int)))] : List Int).map qaC)))] (tl 1 x1 qaC)), oo]] _ hn (by kernel_rfl) (aC (by kernel_rfl : [(T.int .u32 (wU3 n)), (T.int .u32 (wU3 (qdG .u64 n (32 : Int))))] = (([(wU3 n), (wU3 (qdG .u64 n (32 : Int)))] : List Int).map qaC).flatten) <| aC (qbI _ _ _ (by simp) : ((([(wU3 n), (wU3 (qdG .u64 n (32 : Int)))] : List Int).map qaC).drop 0).take 2 = ([(wU3 n), (wU3 (qdG .u64 n (32 : Int)))] : List Int).map qaC) <| aC (rfl : (max 0 (0 + 2)) = (max 0 (0 + 2))) <| aC (qaR h2) <| aN)
theorem natural_Of_all : ∀ K : Nat, natural_Of_H K
  | 0, c, r, h => by rw [qmM] at h; cases h
  | K + 1, .c0 .., r, h => fun cx hn => natural_Of_c0 (natural_Of_all K) hn h
theorem qsZ {K : Nat} {n : Int} {r : (List Int)} (h : qtY K n = some r) : qcX prog 129 [(ti .u64 n)] (tl 1 r qaC) :=
  qa2 [[1]] (by kernel_rfl) (by simp) fun cx hn => natural_Of_all K (.c0 n) r h cx hn
end Go.Am.X
namespace Go.Am.X
open Go.Proofs.Try (prog)
inductive qpT where
  | c0 (a : (List Int)) (b : (List Int))
  | c1 (a : (List Int)) (b : (List Int)) (i : Int)
def qeC : Nat → qpT → Option Int
  | 0, _ => none
  | K + 1, .c0 a b =>
    (qb5 K a).bind fun x1 =>
    (qb5 K b).bind fun x3 =>
    bif (decide ((x3.length : Int) < (x1.length : Int))) then
      some (1 : Int)
    else
      bif (decide ((x1.length : Int) < (x3.length : Int))) then
        some (-1 : Int)
      else
        qeC K (.c1 x1 x3 (wI6 ((x1.length : Int) - (1 : Int))))
  | K + 1, .c1 a b i =>
    bif (decide ((0 : Int) ≤ i)) then
      (gi a i).bind fun x2 =>
      (gi b i).bind fun x4 =>
      bif (decide (x4 < x2)) then
        some (1 : Int)
      else
        (gi a i).bind fun x7 =>
        (gi b i).bind fun x9 =>
        bif (decide (x7 < x9)) then
          some (-1 : Int)
        else
          qeC K (.c1 a b (wI6 (i - (1 : Int))))
    else
      some (0 : Int)
def ql2 (K : Nat) (a : (List Int)) (b : (List Int)) : Option Int := qeC K (.c0 a b)
noncomputable def qs0 : Code := qbN prog 108
noncomputable def natural_Cmp_pos : qpT → List Fr
  | .c0 .. => [.code qs0]
  | .c1 .. => [.code (.loop (atC qs0 [1,1,1,0,1,0,0])), .blk 1, .code (atC qs0 [1,1,1,1])]
def natural_Cmp_st : qpT → St
  | .c0 a b => St.init [(tl 1 a qaC), (tl 1 b qaC)]
  | .c1 a b i => ⟨[(0, vl 1 a qaC), (1, vl 1 b qaC), (5, vi .i64 i)], [], []⟩
def natural_Cmp_S (cx : Cx) (c : qpT) (r : Int) : Prop := Wk prog cx (qcT prog 108 [[0]] (ti .i64 r)) (natural_Cmp_pos c) .normal (natural_Cmp_st c)
abbrev natural_Cmp_H (K : Nat) : Prop := ∀ c r, qeC K c = some r → ∀ cx : Cx, cx.n = 47 → natural_Cmp_S cx c r
theorem natural_Cmp_c0 {K} (ih : natural_Cmp_H K) {cx} (hn : cx.n = 47) {a b} {r} (h : qeC (K + 1) (.c0 a b) = some r) : natural_Cmp_S cx (.c0 a b) r := by
  rw [qeC] at h
  obtain ⟨x1, h2, h⟩ := qaH h
  obtain ⟨x3, h4, h⟩ := qaH h
  rcases qaK h with ⟨h5, h⟩ | ⟨h5, h⟩
  · skip
    have h := Option.some.inj h; subst h
    exact qaN (fuel := 84) [rgG [oo], rgG [oo, opI (.call [[1]] [(tl 1 a qaC)] (tl 1 x1 qaC)), oo, opI (.call [[1]] [(tl 1 b qaC)] (tl 1 x3 qaC)), oo, oo], rgG [oo, opI (.ln (x1.length : Int)), oo, opI (.ln (x3.length : Int)), oo, oo], .br true, rgG [oo]] _ hn (by kernel_rfl) (aC (qaR h2) <| aC (qaR h4) <| aC (qaT x1 qaC) <| aC (qaT x3 qaC) <| aC h5 <| aN)
  · skip
    rcases qaK h with ⟨h6, h⟩ | ⟨h6, h⟩
    · skip
      have h := Option.some.inj h; subst h
      exact qaN (fuel := 98) [rgG [oo], rgG [oo, opI (.call [[1]] [(tl 1 a qaC)] (tl 1 x1 qaC)), oo, opI (.call [[1]] [(tl 1 b qaC)] (tl 1 x3 qaC)), oo, oo], rgG [oo, opI (.ln (x1.length : Int)), oo, opI (.ln (x3.length : Int)), oo, oo], .br false, rgG [oo, opI (.ln (x1.length : Int)), oo, opI (.ln (x3.length : Int)), oo, oo], .br true, rgG [oo]] _ hn (by kernel_rfl) (aC (qaR h2) <| aC (qaR h4) <| aC (qaT x1 qaC) <| aC (qaT x3 qaC) <| aC h5 <| aC (qaT x1 qaC) <| aC (qaT x3 qaC) <| aC h6 <| aN)
    · skip
      exact qaU (fuel := 100) [rgG [oo], rgG [oo, opI (.call [[1]] [(tl 1 a qaC)] (tl 1 x1 qaC)), oo, opI (.call [[1]] [(tl 1 b qaC)] (tl 1 x3 qaC)), oo, oo], rgG [oo, opI (.ln (x1.length : Int)), oo, opI (.ln (x3.length : Int)), oo, oo], .br false, rgG [oo, opI (.ln (x1.length : Int)), oo, opI (.ln (x3.length : Int)), oo, oo], .br false, rgG [oo, opI (.ln (x1.length : Int)), oo, oo], .pre [.keep [0,1,5] []]] _ hn (by kernel_rfl) (aC (qaR h2) <| aC (qaR h4) <| aC (qaT x1 qaC) <| aC (qaT x3 qaC) <| aC h5 <| aC (qaT x1 qaC) <| aC (qaT x3 qaC) <| aC h6 <| aC (qaT x1 qaC) <| aN) (ih _ _ h cx hn)
theorem natural_Cmp_c1 {K} (ih : natural_Cmp_H K) {cx} (hn : cx.n = 47) {a b i} {r} (h : qeC (K + 1) (.c1 a b i) = some r) : natural_Cmp_S cx (.c1 a b i) r := by
  rw [qeC] at h
  rcases qaK h with ⟨h1, h⟩ | ⟨h1, h⟩
  · skip
    obtain ⟨x2, h3, h⟩ := qaH h
    obtain ⟨x4, h5, h⟩ := qaH h
    rcases qaK h with ⟨h6, h⟩ | ⟨h6, h⟩
    · skip
      have h := Option.some.inj h; subst h
      exact qaN (fuel := 104) [.go, rgG [oo, oo], .br true, .draw [.p, .p, (.ix (qaC x2)), .p, .p, .p, (.ix (qaC x4)), .p] [.op .p], .br true, rgG [oo]] _ hn (by kernel_rfl) (aC h1 <| aC (qa0 h3) <| aC (qbH qaC h3) <| aC (qa0 h5) <| aC (qbH qaC h5) <| aC h6 <| aN)
    · skip
      obtain ⟨x7, h8, h⟩ := qaH h
      obtain ⟨x9, h10, h⟩ := qaH h
      rcases qaK h with ⟨h11, h⟩ | ⟨h11, h⟩
      · skip
        have h := Option.some.inj h; subst h
        exact qaN (fuel := 118) [.go, rgG [oo, oo], .br true, .draw [.p, .p, (.ix (qaC x2)), .p, .p, .p, (.ix (qaC x4)), .p] [.op .p], .br false, .draw [.p, .p, (.ix (qaC x7)), .p, .p, .p, (.ix (qaC x9)), .p] [.op .p], .br true, rgG [oo]] _ hn (by kernel_rfl) (aC h1 <| aC (qa0 h3) <| aC (qbH qaC h3) <| aC (qa0 h5) <| aC (qbH qaC h5) <| aC h6 <| aC (qa0 h8) <| aC (qbH qaC h8) <| aC (qa0 h10) <| aC (qbH qaC h10) <| aC h11 <| aN)
      · skip
        exact qaU (fuel := 110) [.go, rgG [oo, oo], .br true, .draw [.p, .p, (.ix (qaC x2)), .p, .p, .p, (.ix (qaC x4)), .p] [.op .p], .br false, .draw [.p, .p, (.ix (qaC x7)), .p, .p, .p, (.ix (qaC x9)), .p] [.op .p], .br false, rgG [oo, oo, oo], .pre [.keep [0,1,5] []]] _ hn (by kernel_rfl) (aC h1 <| aC (qa0 h3) <| aC (qbH qaC h3) <| aC (qa0 h5) <| aC (qbH qaC h5) <| aC h6 <| aC (qa0 h8) <| aC (qbH qaC h8) <| aC (qa0 h10) <| aC (qbH qaC h10) <| aC h11 <| aN) (ih _ _ h cx hn)
  · skip
    have h := Option.some.inj h; subst h
    exact qaN (fuel := 78) [.go, rgG [oo, oo], .br false, rgG [oo]] _ hn (by kernel_rfl) (aC h1 <| aN)
theorem quE : ∀ K : Nat, natural_Cmp_H K
  | 0, c, r, h => by rw [qeC] at h; cases h
  | K + 1, .c0 .., r, h => fun cx hn => natural_Cmp_c0 (quE K) hn h
  | K + 1, .c1 .., r, h => fun cx hn => natural_Cmp_c1 (quE K) hn h
theorem qeB {K : Nat} {a : (List Int)} {b : (List Int)} {r : Int} (h : ql2 K a b = some r) : qcX prog 108 [(tl 1 a qaC), (tl 1 b qaC)] (ti .i64 r) :=
  qa2 [[0]] (by kernel_rfl) (by simp) fun cx hn => quE K (.c0 a b) r h cx hn
end Go.Am.X
namespace Go.Am.X
theorem qu1 {a : List Int} {n : Nat} (h : a[n]? = some 0) : val (a.take (n + 1)) = val (a.take n) := by
  obtain ⟨hn, h1⟩ := List.getElem?_eq_some_iff.1 h
  have h2 : a.take (n + 1) = a.take n ++ [0] := by rw [List.take_add_one, h]; rfl
  rw [h2, qi2]; simp
theorem natural_trim_v2 {a : List Int} {n : Nat} (hd : Dig a) (hn : n ≤ a.length) (hz : n ≠ 0 → a[n - 1]? ≠ some 0) : Ev (fun K => qcL K (.c2 a n)) (digs (val (a.take n))) := by
  refine qaS ?_
  simp only [qcL]
  by_cases h : n = 0
  · subst h
    refine ev_t (by simp) ?_
    rw [List.take_zero, val_nil, qfV]; exact qa3 _
  · refine ev_f (by simp; exact h) (qjP (by simp; exact hn) ?_)
    rw [Int.toNat_natCast, digs_of_can]
    · exact qa3 _
    · refine can_of_last (qh0 hd n) fun x hx => ?_
      rw [List.getLast?_take, if_neg h] at hx
      rintro rfl
      have hn1 : n - 1 < a.length := by omega
      rw [List.getElem?_eq_getElem hn1] at hx
      have := hz h
      rw [List.getElem?_eq_getElem hn1] at this
      simp at hx this
      exact this hx
theorem natural_trim_v1 {a : List Int} (hd : Dig a) (hs : a.length < 4611686018427387904) : ∀ {n : Nat}, n ≤ a.length → Ev (fun K => qcL K (.c1 a n)) (digs (val (a.take n)))
  | 0, hn => by
    refine qaS ?_
    simp only [qcL]
    exact ev_f (by simp) (natural_trim_v2 hd hn (fun h => absurd rfl h))
  | n + 1, hn => by
    refine qaS ?_
    simp only [qcL]
    refine ev_t (by simp) ?_
    rw [qdN (by omega), show ((n + 1 : Nat) : Int) - 1 = (n : Int) by omega]
    refine qb6 (qc0 (by omega)) ?_
    by_cases h : a[n]'(by omega) = 0
    · refine ev_t (by simp [h]) ?_
      have := natural_trim_v1 hd hs (n := n) (by omega)
      rw [qu1 (by rw [List.getElem?_eq_getElem (by omega), h])]
      exact this
    · refine ev_f (by simp [h]) (natural_trim_v2 hd hn fun _ => ?_)
      rw [Nat.add_sub_cancel, List.getElem?_eq_getElem (by omega)]
      simpa using h
theorem qbX {a : List Int} (hd : Dig a) (hs : a.length < 4611686018427387904) : Ev (fun K => qb5 K a) (digs (val a)) := by
  refine qaS ?_
  simp only [qb5, qcL]
  have := natural_trim_v1 hd hs (Nat.le_refl _)
  rw [List.take_length] at this
  exact this
theorem natural_trim_digs (z : Int) (hz : 0 ≤ z) (hs : (digs z).length < 4611686018427387904) : Ev (fun K => qb5 K (digs z)) (digs z) := by
  have := qbX (qdT z) hs
  rwa [qe6 hz] at this
theorem qmN {a : List Int} (hd : Dig a) (hs : a.length ≤ 34359738368) : Ev (fun K => qhH K a) (digs (val a)) := by
  refine qaS ?_
  simp only [qhH, qhL]
  refine qaP (qbX hd (by omega)) (qjP ?_ (qa3 _))
  have := qd4 hd
  omega
theorem qrA {a : List Int} (hd : Dig a) (hs : a.length < 4611686018427387904) : Ev (fun K => qkV K a) (decide (val a = 0)) := by
  refine qaS ?_
  simp only [qkV, qhM]
  refine qaP (qbX hd hs) (qe5 (qa3 _) ?_)
  have := qjY (qbB hd)
  rw [decide_eq_decide, ← this]
  simp
theorem natural_Of_ev {n : Int} (h0 : 0 ≤ n) (h : n < 18446744073709551616) : Ev (fun K => qtY K n) (digs n) := by
  refine qaS ?_
  simp only [qtY, qmM, w_u32, shr64_32]
  have : val [n % 4294967296, n / 4294967296 % 4294967296] = n := by simp; omega
  have ht := qbX (a := [n % 4294967296, n / 4294967296 % 4294967296]) (by simp only [qi1]; exact ⟨by omega, by omega, dig_nil⟩) (by simp)
  rw [this] at ht
  exact qaP ht (qa3 _)
def cmpI (x y : Int) : Int := if x < y then -1 else if y < x then 1 else 0
theorem val_lt_of_len {a b : List Int} (ha : Can a) (hb : Can b) (h : a.length < b.length) : val a < val b := by
  have h1 := qjV (can_dig ha)
  have h2 := can_ge hb (by rintro rfl; simp at h)
  have h3 := qrV (m := a.length) (n := b.length - 1) (by omega)
  omega
theorem natural_Cmp_v1 {a b : List Int} (ha : Dig a) (hb : Dig b) (hl : a.length = b.length) (hs : a.length < 4611686018427387904) : ∀ {n : Nat}, n ≤ a.length → a.drop n = b.drop n → Ev (fun K => qeC K (.c1 a b ((n : Int) - 1))) (cmpI (val a) (val b))
  | 0, _, h => by
    refine qaS ?_
    simp only [qeC]
    simp only [List.drop_zero] at h
    subst h
    refine ev_f (by simp) (qe5 (qa3 _) ?_)
    simp [cmpI]
  | n + 1, hn, h => by
    refine qaS ?_
    simp only [qeC]
    rw [show ((n + 1 : Nat) : Int) - 1 = (n : Int) by omega]
    refine ev_t (by simp) (qb6 (qc0 (by omega)) (qb6 (qc0 (by omega)) ?_))
    have ea := qmH a n (by omega)
    have eb := qmH b n (by omega)
    rw [List.drop_eq_getElem_cons (by omega), qnS] at ea eb
    rw [h] at ea
    have la := qjV (qh0 ha n)
    have lb := qjV (qh0 hb n)
    have na := qbB (qh0 ha n)
    have nb := qbB (qh0 hb n)
    rw [List.length_take, Nat.min_eq_left (by omega)] at la lb
    have hp := qfA n
    have key : ∀ x y P s t : Int, 0 < P → s < P → 0 ≤ t → x < y → s + P * x < t + P * y := by
      intro x y P s t h1 h2 h3 h4
      have := Int.mul_le_mul_of_nonneg_left (show x + 1 ≤ y by omega) (Int.le_of_lt h1)
      rw [Int.mul_add] at this
      omega
    by_cases h1 : b[n]'(by omega) < a[n]'(by omega)
    · refine ev_t (by simp [h1]) (qe5 (qa3 _) ?_)
      have := key _ _ _ _ _ hp lb na (show b[n]'(by omega) + 4294967296 * val (b.drop (n + 1)) < a[n]'(by omega) + 4294967296 * val (b.drop (n + 1)) by omega)
      unfold cmpI
      rw [if_neg (by omega), if_pos (by omega)]
    · refine ev_f (by simpa using h1) (qb6 (qc0 (by omega)) (qb6 (qc0 (by omega)) ?_))
      by_cases h2 : a[n]'(by omega) < b[n]'(by omega)
      · refine ev_t (by simp [h2]) (qe5 (qa3 _) ?_)
        have := key _ _ _ _ _ hp la nb (show a[n]'(by omega) + 4294967296 * val (b.drop (n + 1)) < b[n]'(by omega) + 4294967296 * val (b.drop (n + 1)) by omega)
        unfold cmpI
        rw [if_pos (by omega)]
      · refine ev_f (by simpa using h2) ?_
        rw [qdN (by omega)]
        refine natural_Cmp_v1 ha hb hl hs (by omega) ?_
        rw [List.drop_eq_getElem_cons (by omega), List.drop_eq_getElem_cons (l := b) (by omega), h]
        congr 1; omega
theorem qnG {a b : List Int} (ha : Dig a) (hb : Dig b) (hs : a.length < 4611686018427387904) (ht : b.length < 4611686018427387904) : Ev (fun K => ql2 K a b) (cmpI (val a) (val b)) := by
  refine qaS ?_
  simp only [ql2, qeC]
  have va := qe6 (qbB ha)
  have vb := qe6 (qbB hb)
  refine qaP (qbX ha hs) (qaP (qbX hb ht) ?_)
  have l1 := qd4 ha
  by_cases h1 : (digs (val b)).length < (digs (val a)).length
  · refine ev_t (by simpa using h1) (qe5 (qa3 _) ?_)
    have := val_lt_of_len (qv2 _) (qv2 _) h1
    unfold cmpI
    rw [if_neg (by omega), if_pos (by omega)]
  · refine ev_f (by simpa using h1) ?_
    by_cases h2 : (digs (val a)).length < (digs (val b)).length
    · refine ev_t (by simpa using h2) (qe5 (qa3 _) ?_)
      have := val_lt_of_len (qv2 _) (qv2 _) h2
      unfold cmpI
      rw [if_pos (by omega)]
    · refine ev_f (by simpa using h2) ?_
      rw [qdN (by omega)]
      have := natural_Cmp_v1 (qdT (val a)) (qdT (val b)) (by omega) (by omega) (n := (digs (val a)).length) (by omega) (by rw [List.drop_of_length_le (by omega), List.drop_of_length_le (by omega)])
      rw [va, vb] at this
      exact this
end Go.Am.X
namespace Go.Am.X
open Go.Proofs.Try (prog)
inductive qkG where
  | c0 (x : Int) (y : Int) (carry : Int)
def qg1 : Nat → qkG → Option (Int × Int)
  | 0, _ => none
  | _ + 1, .c0 x y carry =>
    some ((wU3 (wU6 ((wU6 ((wU6 x) + (wU6 y))) + (wU6 carry)))), (wU3 (qdG .u64 (wU6 ((wU6 ((wU6 x) + (wU6 y))) + (wU6 carry))) (32 : Int))))
def qgS (K : Nat) (x : Int) (y : Int) (carry : Int) : Option (Int × Int) := qg1 K (.c0 x y carry)
noncomputable def math_bits_Add32_body : Code := qbN prog 150
noncomputable def math_bits_Add32_pos : qkG → List Fr
  | .c0 .. => [.code math_bits_Add32_body]
def math_bits_Add32_st : qkG → St
  | .c0 x y carry => St.init [(ti .u32 x), (ti .u32 y), (ti .u32 carry)]
def math_bits_Add32_S (cx : Cx) (c : qkG) (r : (Int × Int)) : Prop := Wk prog cx (qcT prog 150 [[0], [0]] (TV.tup [(false, [(T.int .u32 r.1)]), (false, [(T.int .u32 r.2)])])) (math_bits_Add32_pos c) .normal (math_bits_Add32_st c)
abbrev math_bits_Add32_H (K : Nat) : Prop := ∀ c r, qg1 K c = some r → ∀ cx : Cx, cx.n = 22 → math_bits_Add32_S cx c r
theorem math_bits_Add32_c0 {K} (_ : math_bits_Add32_H K) {cx} (hn : cx.n = 22) {x y carry} {r} (h : qg1 (K + 1) (.c0 x y carry) = some r) : math_bits_Add32_S cx (.c0 x y carry) r := by
  rw [qg1] at h
  have h := Option.some.inj h; subst h
  exact qaN (fuel := 70) [rgG [oo, oo], rgG [oo, oo, oo, oo, oo, oo, oo, oo, oo], rgG [oo, oo, oo], rgG [oo, oo, oo, oo]] _ hn (by kernel_rfl) aN
theorem qu0 : ∀ K : Nat, math_bits_Add32_H K
  | 0, c, r, h => by rw [qg1] at h; cases h
  | K + 1, .c0 .., r, h => fun cx hn => math_bits_Add32_c0 (qu0 K) hn h
theorem qgR {K : Nat} {x : Int} {y : Int} {carry : Int} {r : (Int × Int)} (h : qgS K x y carry = some r) : qcX prog 150 [(ti .u32 x), (ti .u32 y), (ti .u32 carry)] (TV.tup [(false, [(T.int .u32 r.1)]), (false, [(T.int .u32 r.2)])]) :=
  qa2 [[0], [0]] (by kernel_rfl) (by simp) fun cx hn => qu0 K (.c0 x y carry) r h cx hn
end Go.Am.X
namespace Go.Am.X
open Go.Proofs.Try (prog)
inductive qkB where
  | c0 (x : Int) (y : Int)
def qgY : Nat → qkB → Option (Int × Int)
  | 0, _ => none
  | _ + 1, .c0 x y =>
    some ((wU3 (qdG .u64 (wU6 ((wU6 x) * (wU6 y))) (32 : Int))), (wU3 (wU6 ((wU6 x) * (wU6 y)))))
def qqB (K : Nat) (x : Int) (y : Int) : Option (Int × Int) := qgY K (.c0 x y)
noncomputable def math_bits_Mul32_body : Code := qbN prog 174
noncomputable def math_bits_Mul32_pos : qkB → List Fr
  | .c0 .. => [.code math_bits_Mul32_body]
def math_bits_Mul32_st : qkB → St
  | .c0 x y => St.init [(ti .u32 x), (ti .u32 y)]
def math_bits_Mul32_S (cx : Cx) (c : qkB) (r : (Int × Int)) : Prop := Wk prog cx (qcT prog 174 [[0], [0]] (TV.tup [(false, [(T.int .u32 r.1)]), (false, [(T.int .u32 r.2)])])) (math_bits_Mul32_pos c) .normal (math_bits_Mul32_st c)
abbrev math_bits_Mul32_H (K : Nat) : Prop := ∀ c r, qgY K c = some r → ∀ cx : Cx, cx.n = 17 → math_bits_Mul32_S cx c r
theorem math_bits_Mul32_c0 {K} (_ : math_bits_Mul32_H K) {cx} (hn : cx.n = 17) {x y} {r} (h : qgY (K + 1) (.c0 x y) = some r) : math_bits_Mul32_S cx (.c0 x y) r := by
  rw [qgY] at h
  have h := Option.some.inj h; subst h
  exact qaN (fuel := 62) [rgG [oo, oo], rgG [oo, oo, oo, oo, oo, oo], rgG [oo, oo, oo, oo, oo, oo, oo]] _ hn (by kernel_rfl) aN
theorem quR : ∀ K : Nat, math_bits_Mul32_H K
  | 0, c, r, h => by rw [qgY] at h; cases h
  | K + 1, .c0 .., r, h => fun cx hn => math_bits_Mul32_c0 (quR K) hn h
theorem math_bits_Mul32_holds {K : Nat} {x : Int} {y : Int} {r : (Int × Int)} (h : qqB K x y = some r) : qcX prog 174 [(ti .u32 x), (ti .u32 y)] (TV.tup [(false, [(T.int .u32 r.1)]), (false, [(T.int .u32 r.2)])]) :=
  qa2 [[0], [0]] (by kernel_rfl) (by simp) fun cx hn => quR K (.c0 x y) r h cx hn
end Go.Am.X
namespace Go.Am.X
open Go.Proofs.Try (prog)
inductive qpQ where
  | c0 (a : (List Int)) (b : (List Int))
  | c1 (r32 : (List Int)) (b : (List Int)) (t33 : (List Int)) (t34 : Int) (t35 : Int)
  | c2 (r32 : (List Int)) (b : (List Int)) (t33 : (List Int)) (t34 : Int) (t35 : Int)
  | c3 (r32 : (List Int)) (b : (List Int)) (i : Int) (x : Int) (carry : Int) (off_row : Nat) (len_row : Nat) (t33 : (List Int)) (t34 : Int) (t35 : Int) (t49 : (List Int)) (t50 : Int) (t51 : Int)
def qbR : Nat → qpQ → Option (List Int)
  | 0, _ => none
  | K + 1, .c0 a b =>
    (qb5 K a).bind fun x1 =>
    (qb5 K b).bind fun x3 =>
    bif (decide ((x1.length : Int) = (0 : Int))) then
      some []
    else
      bif (decide ((x3.length : Int) = (0 : Int))) then
        some []
      else
        gd (0 ≤ (wI6 ((x1.length : Int) + (x3.length : Int))) ∧ (wI6 ((x1.length : Int) + (x3.length : Int))) ≤ (wI6 ((x1.length : Int) + (x3.length : Int))) ∧ (4 : Int) * (wI6 ((x1.length : Int) + (x3.length : Int))) ≤ 140737488355328) <|
        qbR K (.c1 (List.replicate (wI6 ((x1.length : Int) + (x3.length : Int))).toNat ((0 : Int) : Int)) x3 x1 (x1.length : Int) (0 : Int))
  | K + 1, .c1 r32 b t33 t34 t35 =>
    bif (decide (t35 < t34)) then
      (gi t33 t35).bind fun x2 =>
      bif (decide (x2 = (0 : Int))) then
        qbR K (.c2 r32 b t33 t34 t35)
      else
        gd (0 ≤ t35 ∧ 0 ≤ (wI6 (t35 + (b.length : Int))) ∧ t35.toNat ≤ (wI6 (t35 + (b.length : Int))).toNat ∧ (wI6 (t35 + (b.length : Int))).toNat ≤ r32.length ∧ (t35.toNat = 0 ∨ t35.toNat < r32.length)) <|
        qbR K (.c3 r32 b t35 x2 (0 : Int) (0 + t35.toNat) ((wI6 (t35 + (b.length : Int))).toNat - t35.toNat) t33 t34 t35 b (b.length : Int) (0 : Int))
    else
      (qb5 K r32).bind fun x2 =>
      some x2
  | K + 1, .c2 r32 b t33 t34 t35 =>
    qbR K (.c1 r32 b t33 t34 (wI6 (t35 + (1 : Int))))
  | K + 1, .c3 r32 b i x carry off_row len_row t33 t34 t35 t49 t50 t51 =>
    bif (decide (t51 < t50)) then
      (gi t49 t51).bind fun x2 =>
      (qqB K x x2).bind fun x4 =>
      (gio r32 off_row len_row t51).bind fun x6 =>
      (qgS K x4.2 x6 (0 : Int)).bind fun x8 =>
      (qgS K x8.1 carry (0 : Int)).bind fun x10 =>
      (gio r32 off_row len_row t51).bind fun _ =>
      qbR K (.c3 (r32.set (off_row + t51.toNat) x10.1) b i x (wU3 ((wU3 (x4.1 + x8.2)) + x10.2)) off_row len_row t33 t34 t35 t49 t50 (wI6 (t51 + (1 : Int))))
    else
      (gi r32 (wI6 (i + (b.length : Int)))).bind fun _ =>
      qbR K (.c2 (r32.set ((wI6 (i + (b.length : Int))).toNat) carry) b t33 t34 t35)
def natural_Mul (K : Nat) (a : (List Int)) (b : (List Int)) : Option (List Int) := qbR K (.c0 a b)
noncomputable def qd7 : Code := qbN prog 130
noncomputable def natural_Mul_pos : qpQ → List Fr
  | .c0 .. => [.code qd7]
  | .c1 .. => [.code (.loop (atC qd7 [1,1,1,1,0,1,0,0])), .blk 0, .code (atC qd7 [1,1,1,1,1])]
  | .c2 .. => [.code (atC qd7 [1,1,1,1,0,1,0,0,1,1,1]), .lp (atC qd7 [1,1,1,1,0,1,0,0]), .blk 0, .code (atC qd7 [1,1,1,1,1])]
  | .c3 .. => [.code (.loop (atC qd7 [1,1,1,1,0,1,0,0,1,1,0,0,1,1,1,1,0,1,0,0])), .blk 2, .code (atC qd7 [1,1,1,1,0,1,0,0,1,1,0,0,1,1,1,1,1]), .blk 1, .code (atC qd7 [1,1,1,1,0,1,0,0,1,1,1]), .lp (atC qd7 [1,1,1,1,0,1,0,0]), .blk 0, .code (atC qd7 [1,1,1,1,1])]
def natural_Mul_st : qpQ → St
  | .c0 a b => St.init [(tl 1 a qaC), (tl 1 b qaC)]
  | .c1 r32 b t33 t34 t35 => ⟨[(1, vl 1 b qaC), (5, .c (C.row 32 0 r32.length)), (33, vl 1 t33 qaC), (34, vi .i64 t34), (35, vi .i64 t35)], [(32, .row 101 1 (r32.map qaC) 0)], []⟩
  | .c2 r32 b t33 t34 t35 => ⟨[(1, vl 1 b qaC), (5, .c (C.row 32 0 r32.length)), (33, vl 1 t33 qaC), (34, vi .i64 t34), (35, vi .i64 t35)], [(32, .row 101 1 (r32.map qaC) 0)], []⟩
  | .c3 r32 b i x carry off_row len_row t33 t34 t35 t49 t50 t51 => ⟨[(1, vl 1 b qaC), (5, .c (C.row 32 0 r32.length)), (6, vi .i64 i), (7, vi .u32 x), (8, vi .u32 carry), (9, .c (C.row 32 off_row len_row)), (33, vl 1 t33 qaC), (34, vi .i64 t34), (35, vi .i64 t35), (49, vl 1 t49 qaC), (50, vi .i64 t50), (51, vi .i64 t51)], [(32, .row 101 1 (r32.map qaC) 0)], []⟩
def qpO (cx : Cx) (c : qpQ) (r : (List Int)) : Prop := Wk prog cx (qcT prog 130 [[1]] (tl 1 r qaC)) (natural_Mul_pos c) .normal (natural_Mul_st c)
abbrev qpP (K : Nat) : Prop := ∀ c r, qbR K c = some r → ∀ cx : Cx, cx.n = 98 → qpO cx c r
theorem natural_Mul_c0 {K} (ih : qpP K) {cx} (hn : cx.n = 98) {a b} {r} (h : qbR (K + 1) (.c0 a b) = some r) : qpO cx (.c0 a b) r := by
  rw [qbR] at h
  obtain ⟨x1, h2, h⟩ := qaH h
  obtain ⟨x3, h4, h⟩ := qaH h
  rcases qaK h with ⟨h5, h⟩ | ⟨h5, h⟩
  · skip
    have h := Option.some.inj h; subst h
    exact qaN (fuel := 80) [rgG [oo], rgG [oo, opI (.call [[1]] [(tl 1 a qaC)] (tl 1 x1 qaC)), oo, opI (.call [[1]] [(tl 1 b qaC)] (tl 1 x3 qaC)), oo, oo], rgG [oo, opI (.ln (x1.length : Int)), oo, oo, .sb 22 true, oo, oo, oo, oo], .br true, rgG [oo]] _ hn (by kernel_rfl) (aC (qaR h2) <| aC (qaR h4) <| aC (qaT x1 qaC) <| aC h5 <| aC rt <| aN)
  · skip
    rcases qaK h with ⟨h6, h⟩ | ⟨h6, h⟩
    · skip
      have h := Option.some.inj h; subst h
      exact qaN (fuel := 80) [rgG [oo], rgG [oo, opI (.call [[1]] [(tl 1 a qaC)] (tl 1 x1 qaC)), oo, opI (.call [[1]] [(tl 1 b qaC)] (tl 1 x3 qaC)), oo, oo], rgG [oo, opI (.ln (x1.length : Int)), oo, oo, .sb 22 false, oo, opI (.ln (x3.length : Int)), oo, oo], .br true, rgG [oo]] _ hn (by kernel_rfl) (aC (qaR h2) <| aC (qaR h4) <| aC (qaT x1 qaC) <| aC h5 <| aC (qaT x3 qaC) <| aC h6 <| aN)
    · skip
      obtain ⟨h7, h⟩ := qbE h
      exact qaU (fuel := 90) [rgG [oo], rgG [oo, opI (.call [[1]] [(tl 1 a qaC)] (tl 1 x1 qaC)), oo, opI (.call [[1]] [(tl 1 b qaC)] (tl 1 x3 qaC)), oo, oo], rgG [oo, opI (.ln (x1.length : Int)), oo, oo, .sb 22 false, oo, opI (.ln (x3.length : Int)), oo, oo], .br false, rgG [oo, opI (.ln (x1.length : Int)), oo, opI (.ln (x3.length : Int)), oo, opI (.mk (qaC (0 : Int)) ((List.replicate (wI6 ((x1.length : Int) + (x3.length : Int))).toNat ((0 : Int) : Int)).map qaC)), oo], rgG [oo, opI (.ln (x1.length : Int)), oo], .pre [.rl 5 0 (List.replicate (wI6 ((x1.length : Int) + (x3.length : Int))).toNat ((0 : Int) : Int)).length, .keep [1,5,33,34,35] [32]]] _ hn (by kernel_rfl) (aC (qaR h2) <| aC (qaR h4) <| aC (qaT x1 qaC) <| aC h5 <| aC (qaT x3 qaC) <| aC h6 <| aC (qaT x1 qaC) <| aC (qaT x3 qaC) <| aC h7.1 <| aC h7.2.1 <| aC h7.2.2 <| aC (qf1 _ _ _ : List.replicate (wI6 ((x1.length : Int) + (x3.length : Int))).toNat (qaC (0 : Int)) = (List.replicate (wI6 ((x1.length : Int) + (x3.length : Int))).toNat ((0 : Int) : Int)).map qaC) <| aC (qaT x1 qaC) <| aC r0 <| aC (by simp : (wI6 ((x1.length : Int) + (x3.length : Int))).toNat = (List.replicate (wI6 ((x1.length : Int) + (x3.length : Int))).toNat ((0 : Int) : Int)).length) <| aN) (ih _ _ h cx hn)
theorem natural_Mul_c1 {K} (ih : qpP K) {cx} (hn : cx.n = 98) {r32 b t33 t34 t35} {r} (h : qbR (K + 1) (.c1 r32 b t33 t34 t35) = some r) : qpO cx (.c1 r32 b t33 t34 t35) r := by
  rw [qbR] at h
  rcases qaK h with ⟨h1, h⟩ | ⟨h1, h⟩
  · skip
    obtain ⟨x2, h3, h⟩ := qaH h
    rcases qaK h with ⟨h4, h⟩ | ⟨h4, h⟩
    · skip
      exact qaU (fuel := 96) [.go, rgG [oo], .br true, rgG [oo, opI (.ix (qaC x2)), oo, oo, oo], rgG [oo, oo], .br true, .pre [.rl 5 0 r32.length, .keep [1,5,33,34,35] [32]]] _ hn (by kernel_rfl) (aC h1 <| aC (qa0 h3) <| aC (qbH qaC h3) <| aC h4 <| aC r0 <| aC (lq r32) <| aN) (ih _ _ h cx hn)
    · skip
      obtain ⟨h5, h⟩ := qbE h
      exact qaU (fuel := 120) [.go, rgG [oo], .br true, rgG [oo, opI (.ix (qaC x2)), oo, oo, oo], rgG [oo, oo], .br false, rgG [oo], rgG [oo, oo, oo, oo, opI (.ln (b.length : Int)), oo, opI (.slR t35.toNat ((wI6 (t35 + (b.length : Int))).toNat) (0 + t35.toNat) ((wI6 (t35 + (b.length : Int))).toNat - t35.toNat)), oo], rgG [oo, opI (.ln (b.length : Int)), oo], .pre [.rl 5 0 r32.length, .keep [1,5,6,7,8,9,33,34,35,49,50,51] [32]]] _ hn (by kernel_rfl) (aC h1 <| aC (qa0 h3) <| aC (qbH qaC h3) <| aC h4 <| aC (qaT b qaC) <| aC (⟨h5.1, rfl⟩ : 0 ≤ t35 ∧ t35.toNat = t35.toNat) <| aC (⟨h5.2.1, rfl⟩ : 0 ≤ (wI6 (t35 + (b.length : Int))) ∧ (wI6 (t35 + (b.length : Int))).toNat = (wI6 (t35 + (b.length : Int))).toNat) <| aC h5.2.2.1 <| aC h5.2.2.2.1 <| aC h5.2.2.2.2 <| aC (rfl : 0 + t35.toNat = (0 + t35.toNat)) <| aC (rfl : (wI6 (t35 + (b.length : Int))).toNat - t35.toNat = ((wI6 (t35 + (b.length : Int))).toNat - t35.toNat)) <| aC (qaT b qaC) <| aC r0 <| aC (lq r32) <| aN) (ih _ _ h cx hn)
  · skip
    obtain ⟨x2, h3, h⟩ := qaH h
    have h := Option.some.inj h; subst h
    exact qaN (fuel := 78) [.go, rgG [oo], .br false, rgG [oo, .snap 96 (max 0 (0 + r32.length)) (r32.map qaC), opI (.call [[1]] [(tl 1 r32 qaC)] (tl 1 x2 qaC)), oo]] _ hn (by kernel_rfl) (aC h1 <| aC (qbI _ _ _ (by simp) : ((r32.map qaC).drop 0).take r32.length = r32.map qaC) <| aC (rfl : (max 0 (0 + r32.length)) = (max 0 (0 + r32.length))) <| aC (qaR h3) <| aN)
theorem natural_Mul_c2 {K} (ih : qpP K) {cx} (hn : cx.n = 98) {r32 b t33 t34 t35} {r} (h : qbR (K + 1) (.c2 r32 b t33 t34 t35) = some r) : qpO cx (.c2 r32 b t33 t34 t35) r := by
  rw [qbR] at h
  exact qaU (fuel := 44) [rgG [oo, oo], .pre [.rl 5 0 r32.length, .keep [1,5,33,34,35] [32]]] _ hn (by kernel_rfl) (aC r0 <| aC (lq r32) <| aN) (ih _ _ h cx hn)
theorem natural_Mul_c3 {K} (ih : qpP K) {cx} (hn : cx.n = 98) {r32 b i x carry off_row len_row t33 t34 t35 t49 t50 t51} {r} (h : qbR (K + 1) (.c3 r32 b i x carry off_row len_row t33 t34 t35 t49 t50 t51) = some r) : qpO cx (.c3 r32 b i x carry off_row len_row t33 t34 t35 t49 t50 t51) r := by
  rw [qbR] at h
  rcases qaK h with ⟨h1, h⟩ | ⟨h1, h⟩
  · skip
    obtain ⟨x2, h3, h⟩ := qaH h
    obtain ⟨x4, h5, h⟩ := qaH h
    obtain ⟨x6, h7, h⟩ := qaH h
    obtain ⟨x8, h9, h⟩ := qaH h
    obtain ⟨x10, h11, h⟩ := qaH h
    obtain ⟨x12, h13, h⟩ := qaH h
    exact qaU (fuel := 122) [.go, rgG [oo], .br true, rgG [oo, opI (.ix (qaC x2)), oo, oo, oo], rgG [oo, oo, opI (.call [[0], [0]] [(ti .u32 x), (ti .u32 x2)] (TV.tup [(false, [(T.int .u32 x4.1)]), (false, [(T.int .u32 x4.2)])])), oo, oo, oo, oo, oo], rgG [oo, oo, oo, .op .ir, opI (.ld (qaC x6)), opI (.call [[0], [0], [0]] [(ti .u32 x4.2), (ti .u32 x6), (TV.c (T.int .u32 (0 : Int)))] (TV.tup [(false, [(T.int .u32 x8.1)]), (false, [(T.int .u32 x8.2)])])), oo, oo, oo, oo, oo], rgG [oo, oo, oo, oo], rgG [oo, oo, opI (.call [[0], [0], [0]] [(ti .u32 x8.1), (ti .u32 carry), (TV.c (T.int .u32 (0 : Int)))] (TV.tup [(false, [(T.int .u32 x10.1)]), (false, [(T.int .u32 x10.2)])])), oo, oo, oo, oo, oo], rgG [oo, oo, oo, oo, oo, oo, .op .ir, opI (.st (qaC x12) ((r32.set (off_row + t51.toNat) x10.1).map qaC)), oo], rgG [oo, oo], .pre [.rl 5 0 (r32.set (off_row + t51.toNat) x10.1).length, .keep [1,5,6,7,8,9,33,34,35,49,50,51] [32]]] _ hn (by kernel_rfl) (aC h1 <| aC (qa0 h3) <| aC (qbH qaC h3) <| aC (math_bits_Mul32_holds h5) <| aC (gio_nn h7) <| aC (gio_lt h7) <| aC (gio_at qaC h7) <| aC (qgR h9) <| aC (qgR h11) <| aC (gio_nn h13) <| aC (gio_lt h13) <| aC (gio_at qaC h13) <| aC (set_mapo _ _ x10.1 _ : (r32.map qaC).set (off_row + t51.toNat) (qbY (qaC x12) 0 [(T.int .u32 x10.1)]) = (r32.set (off_row + t51.toNat) x10.1).map qaC) <| aC (Nat.zero_le _ : 0 ≤ (off_row + t51.toNat)) <| aC r0 <| aC (by simp : r32.length = (r32.set (off_row + t51.toNat) x10.1).length) <| aN) (ih _ _ h cx hn)
  · skip
    obtain ⟨x2, h3, h⟩ := qaH h
    exact qaU (fuel := 76) [.go, rgG [oo], .br false, rgG [oo, oo, oo, opI (.ln (b.length : Int)), oo, oo, .op .ir, opI (.st (qaC x2) ((r32.set ((wI6 (i + (b.length : Int))).toNat) carry).map qaC))], .pre [.rl 5 0 (r32.set ((wI6 (i + (b.length : Int))).toNat) carry).length, .keep [1,5,33,34,35] [32]]] _ hn (by kernel_rfl) (aC h1 <| aC (qaT b qaC) <| aC (qa0 h3) <| aC (qcH h3 (by simp) : (wI6 (i + (b.length : Int))) < ((r32.length : Nat) : Int)) <| aC (qcG qaC h3 : (r32.map qaC)[(0 + (wI6 (i + (b.length : Int))).toNat)]? = some (qaC x2)) <| aC (qc7 _ _ carry _ : (r32.map qaC).set (0 + (wI6 (i + (b.length : Int))).toNat) (qbY (qaC x2) 0 [(T.int .u32 carry)]) = (r32.set ((wI6 (i + (b.length : Int))).toNat) carry).map qaC) <| aC (Nat.zero_le _ : 0 ≤ (0 + (wI6 (i + (b.length : Int))).toNat)) <| aC r0 <| aC (by simp : r32.length = (r32.set ((wI6 (i + (b.length : Int))).toNat) carry).length) <| aN) (ih _ _ h cx hn)
theorem ql0 : ∀ K : Nat, qpP K
  | 0, c, r, h => by rw [qbR] at h; cases h
  | K + 1, .c0 .., r, h => fun cx hn => natural_Mul_c0 (ql0 K) hn h
  | K + 1, .c1 .., r, h => fun cx hn => natural_Mul_c1 (ql0 K) hn h
  | K + 1, .c2 .., r, h => fun cx hn => natural_Mul_c2 (ql0 K) hn h
  | K + 1, .c3 .., r, h => fun cx hn => natural_Mul_c3 (ql0 K) hn h
theorem natural_Mul_holds {K : Nat} {a : (List Int)} {b : (List Int)} {r : (List Int)} (h : natural_Mul K a b = some r) : qcX prog 130 [(tl 1 a qaC), (tl 1 b qaC)] (tl 1 r qaC) :=
  qa2 [[1]] (by kernel_rfl) (by simp) fun cx hn => ql0 K (.c0 a b) r h cx hn
end Go.Am.X
namespace Go.Am.X
theorem qlQ {x y c : Int} (hx : 0 ≤ x ∧ x < 4294967296) (hy : 0 ≤ y ∧ y < 4294967296) (hc : 0 ≤ c ∧ c < 4294967296) :
    Ev (fun K => qgS K x y c) ((x + y + c) % 4294967296, (x + y + c) / 4294967296) := by
  refine qaS ?_
  simp only [qgS, qg1, w_u32, qsS, shr64_32]
  refine qe5 (qa3 _) ?_
  ext
  · show _ = _; simp only; omega
  · show _ = _; simp only; omega
theorem prod_lt {x y : Int} (hx : 0 ≤ x ∧ x < 4294967296) (hy : 0 ≤ y ∧ y < 4294967296) : 0 ≤ x * y ∧ x * y ≤ 18446744065119617025 := by
  refine ⟨Int.mul_nonneg hx.1 hy.1, ?_⟩
  have := Int.mul_le_mul (show x ≤ 4294967295 by omega) (show y ≤ 4294967295 by omega) hy.1 (by omega)
  simpa using this
theorem math_bits_Mul32_ev {x y : Int} (hx : 0 ≤ x ∧ x < 4294967296) (hy : 0 ≤ y ∧ y < 4294967296) :
    Ev (fun K => qqB K x y) (x * y / 4294967296, x * y % 4294967296) := by
  refine qaS ?_
  simp only [qqB, qgY, w_u32, qsS, shr64_32]
  have := prod_lt hx hy
  refine qe5 (qa3 _) ?_
  rw [Int.emod_eq_of_lt hx.1 (by omega), Int.emod_eq_of_lt hy.1 (by omega)]
  ext
  · show _ = _; simp only; omega
  · show _ = _; simp only; omega
theorem mul_step {x y r c : Int} (hx : 0 ≤ x ∧ x < 4294967296) (hy : 0 ≤ y ∧ y < 4294967296) (hr : 0 ≤ r ∧ r < 4294967296) (hc : 0 ≤ c ∧ c < 4294967296) :
    (x * y % 4294967296 + r + 0) % 4294967296 + c + 0 < 4294967296 * 2 ∧
    ∃ n d : Int, ((x * y % 4294967296 + r + 0) % 4294967296 + c + 0) % 4294967296 = n ∧ ((x * y / 4294967296 + (x * y % 4294967296 + r + 0) / 4294967296) % 4294967296 + ((x * y % 4294967296 + r + 0) % 4294967296 + c + 0) / 4294967296) % 4294967296 = d ∧
    n + 4294967296 * d = x * y + r + c ∧ (0 ≤ n ∧ n < 4294967296) ∧ (0 ≤ d ∧ d < 4294967296) := by
  have := prod_lt hx hy
  generalize x * y = P at *
  refine ⟨by omega, _, _, rfl, rfl, ?_, by omega, by omega⟩
  omega
theorem natural_Mul_v3 {b t33 : List Int} {t34 : Int} {i : Nat} {x : Int} {r : List Int} (hb : Dig b) (hx : 0 ≤ x ∧ x < 4294967296) (R : List Int) (V : Int) (hR : b.length < 2305843009213693952) (hi : i < 2305843009213693952)
    (hend : ∀ (r' : List Int), Dig r' → r'.length = R.length → val r' = V + x * (4294967296 ^ i * val b) → (∀ j, i + b.length < j → r'[j]? = R[j]?) → Ev (fun K => qbR K (.c2 r' b t33 t34 i)) r) :
    ∀ (m k : Nat) (c : Int) (q : List Int), k + m = b.length → (0 ≤ c ∧ c < 4294967296) → Dig q → q.length = R.length → val q + 4294967296 ^ (i + k) * c = V + x * (4294967296 ^ i * val (b.take k)) → (∀ j, i + k ≤ j → q[j]? = R[j]?) → i + b.length < R.length → R[i + b.length]? = some 0 →
      Ev (fun K => qbR K (.c3 q b i x c i b.length t33 t34 i b b.length k)) r
  | 0, k, c, q, hk, hc, hq, hl, hv, hu, hlt, hz => by
    refine qaS ?_
    simp only [qbR]
    refine ev_f (by simp; omega) ?_
    rw [qdN (by omega), show (i : Int) + (b.length : Int) = ((i + b.length : Nat) : Int) by omega]
    refine qb6 (qc0 (by omega)) ?_
    rw [Int.toNat_natCast]
    have hk' : k = b.length := by omega
    subst hk'
    refine hend _ (qnD hq _ hc) (by simpa using hl) ?_ fun j hj => ?_
    · rw [qoL (by omega)]
      have h0 : q[i + b.length]'(by omega) = 0 := by
        have := hu (i + b.length) (Nat.le_refl _)
        rw [hz, List.getElem?_eq_getElem (by omega)] at this
        exact Option.some.inj this
      rw [h0, Int.sub_zero, hv, List.take_length]
    · rw [List.getElem?_set_ne (by omega)]
      exact hu j (by omega)
  | m + 1, k, c, q, hk, hc, hq, hl, hv, hu, hlt, hz => by
    refine qaS ?_
    simp only [qbR]
    refine ev_t (by simp; omega) ?_
    have hkb : k < b.length := by omega
    have hik : i + k < q.length := by omega
    have hy := qfE hb hkb
    have hr := qfE hq hik
    refine qb6 (qc0 hkb) (qaP (math_bits_Mul32_ev hx hy) (qb6 (gio_get hkb (List.getElem?_eq_getElem hik)) ?_))
    refine qaP (qlQ ⟨by simp only; omega, by simp only; omega⟩ hr (by decide)) ?_
    refine qaP (qlQ ⟨by simp only; omega, by simp only; omega⟩ hc (by decide)) ?_
    refine qb6 (gio_get hkb (List.getElem?_eq_getElem hik)) ?_
    simp only [w_u32]
    obtain ⟨_, n, d, e1, e2, e3, hn, hd⟩ := mul_step hx hy hr hc
    rw [e1, e2, qdN (by omega), show (k : Int) + 1 = ((k + 1 : Nat) : Int) by omega, Int.toNat_natCast]
    refine natural_Mul_v3 hb hx R V hR hi hend m (k + 1) d _ (by omega) hd (qnD hq _ hn) (by simpa using hl) ?_ (fun j hj => ?_) hlt hz
    · rw [qoL hik, List.take_add_one, List.getElem?_eq_getElem hkb]
      simp only [Option.toList_some]
      rw [qi2, List.length_take, Nat.min_eq_left (by omega), ← Nat.add_assoc, Int.pow_succ]
      simp only [qnS, val_nil, Int.mul_zero, Int.add_zero]
      rw [Int.pow_add] at *
      generalize (4294967296 : Int) ^ i = A at *
      generalize (4294967296 : Int) ^ k = C at *
      grind
    · rw [List.getElem?_set_ne (by omega)]
      exact hu j (by omega)
theorem natural_Mul_v1 {a b : List Int} (ha : Dig a) (hb : Dig b) (hR : a.length + b.length < 2305843009213693952) (L : Nat) (hL : L = a.length + b.length) :
    ∀ (m i : Nat) (q : List Int), i + m = a.length → Dig q → q.length = L → val q = val (a.take i) * val b → (∀ j, i + b.length ≤ j → j < L → q[j]? = some 0) →
      Ev (fun K => qbR K (.c1 q b a a.length i)) (digs (val a * val b))
  | 0, i, q, hi, hq, hl, hv, hz => by
    refine qaS ?_
    simp only [qbR]
    refine ev_f (by simp; omega) ?_
    have := qbX hq (by omega)
    rw [hv, List.take_of_length_le (by omega)] at this
    exact qaP this (qa3 _)
  | m + 1, i, q, hi, hq, hl, hv, hz => by
    refine qaS ?_
    simp only [qbR]
    have hia : i < a.length := by omega
    refine ev_t (by simp; omega) (qb6 (qc0 hia) ?_)
    have hx := qfE ha hia
    have e : val (a.take (i + 1)) = val (a.take i) + 4294967296 ^ i * a[i] := by
      rw [List.take_add_one, List.getElem?_eq_getElem hia, Option.toList_some, qi2, List.length_take, Nat.min_eq_left (by omega)]
      simp
    have next : ∀ r' : List Int, Dig r' → r'.length = L → val r' = val (a.take (i + 1)) * val b → (∀ j, i + b.length < j → r'[j]? = q[j]?) → Ev (fun K => qbR K (.c2 r' b a a.length i)) (digs (val a * val b)) := by
      intro r' h1 h2 h3 h4
      refine qaS ?_
      simp only [qbR]
      rw [qdN (by omega), show (i : Int) + 1 = ((i + 1 : Nat) : Int) by omega]
      exact natural_Mul_v1 ha hb hR L hL m (i + 1) r' (by omega) h1 h2 h3 fun j hj hjl => by rw [h4 j (by omega)]; exact hz j (by omega) hjl
    by_cases h0 : a[i] = 0
    · refine ev_t (by simpa using h0) (next q hq hl ?_ fun _ _ => rfl)
      rw [hv, e, h0]; simp
    · refine ev_f (by simpa using h0) (qjP ?_ ?_)
      · rw [qdN (by omega)]; omega
      · have e1 : 0 + (i : Int).toNat = i := by omega
        have e2 : (wI6 ((i : Int) + (b.length : Int))).toNat - (i : Int).toNat = b.length := by rw [qdN (by omega)]; omega
        rw [e1, e2]
        refine natural_Mul_v3 (i := i) hb hx q (val q) (by omega) (by omega) ?_ b.length 0 0 q (by omega) (by decide) hq rfl (by simp) (fun j _ => rfl) (by omega) (hz _ (by omega) (by omega))
        intro r' h1 h2 h3 h4
        refine next r' h1 (by omega) ?_ h4
        rw [h3, hv, e]
        grind
theorem natural_Mul_ev {a b : List Int} (ha : Dig a) (hb : Dig b) (hs : a.length + b.length ≤ 34359738368) : Ev (fun K => natural_Mul K a b) (digs (val a * val b)) := by
  refine qaS ?_
  simp only [natural_Mul, qbR]
  have va := qe6 (qbB ha)
  have vb := qe6 (qbB hb)
  have la := qd4 ha
  have lb := qd4 hb
  refine qaP (qbX ha (by omega)) (qaP (qbX hb (by omega)) ?_)
  by_cases h1 : digs (val a) = []
  · refine ev_t (by simp [h1]) (qe5 (qa3 _) ?_)
    rw [(qjY (qbB ha)).1 h1, Int.zero_mul, qfV]
  · refine ev_f (by simpa using h1) ?_
    by_cases h2 : digs (val b) = []
    · refine ev_t (by simp [h2]) (qe5 (qa3 _) ?_)
      rw [(qjY (qbB hb)).1 h2, Int.mul_zero, qfV]
    · refine ev_f (by simpa using h2) ?_
      rw [qdN (by omega)]
      refine qjP (by omega) ?_
      have := natural_Mul_v1 (qdT (val a)) (qdT (val b)) (by omega) _ rfl (digs (val a)).length 0 (List.replicate ((digs (val a)).length + (digs (val b)).length) 0) (by omega) (dig_rep (by decide)) (by simp) (by rw [val_rep]; simp) (fun j _ hj => by rw [List.getElem?_replicate, if_pos hj])
      rw [va, vb] at this
      rw [show (((digs (val a)).length : Int) + ((digs (val b)).length : Int)).toNat = (digs (val a)).length + (digs (val b)).length by omega]
      exact this
end Go.Am.X
namespace Go.Am.X
open Go.Proofs.Try (prog)
inductive qn8 where
  | c0 (neg : Bool) (abs : (List Int))
def qjI : Nat → qn8 → Option qaB
  | 0, _ => none
  | _ + 1, .c0 neg abs =>
    bif neg then
      some (qaB.mk (decide ((0 : Int) < (abs.length : Int))) abs)
    else
      some (qaB.mk false abs)
def qgU (K : Nat) (neg : Bool) (abs : (List Int)) : Option qaB := qjI K (.c0 neg abs)
noncomputable def integer_made_body : Code := qbN prog 105
noncomputable def integer_made_pos : qn8 → List Fr
  | .c0 .. => [.code integer_made_body]
def integer_made_st : qn8 → St
  | .c0 neg abs => St.init [(TV.c (T.bool neg)), (tl 1 abs qaC)]
def integer_made_S (cx : Cx) (c : qn8) (r : qaB) : Prop := Wk prog cx (qcT prog 105 [[0,1]] (TV.agg (qaA r))) (integer_made_pos c) .normal (integer_made_st c)
abbrev integer_made_H (K : Nat) : Prop := ∀ c r, qjI K c = some r → ∀ cx : Cx, cx.n = 13 → integer_made_S cx c r
theorem integer_made_c0 {K} (_ : integer_made_H K) {cx} (hn : cx.n = 13) {neg abs} {r} (h : qjI (K + 1) (.c0 neg abs) = some r) : integer_made_S cx (.c0 neg abs) r := by
  rw [qjI] at h
  rcases qaK h with ⟨h1, h⟩ | ⟨h1, h⟩
  · skip
    have h := Option.some.inj h; subst h
    exact qaN (fuel := 54) [rgG [oo], rgG [oo, oo, .sb 6 true, oo, opI (.ln (abs.length : Int)), oo, oo, oo, oo, oo]] _ hn (by kernel_rfl) (aC h1 <| aC (qaT abs qaC) <| aN)
  · skip
    have h := Option.some.inj h; subst h
    exact qaN (fuel := 54) [rgG [oo], rgG [oo, oo, .sb 6 false, oo, oo, oo, oo, oo, oo, oo]] _ hn (by kernel_rfl) (aC h1 <| aN)
theorem integer_made_all : ∀ K : Nat, integer_made_H K
  | 0, c, r, h => by rw [qjI] at h; cases h
  | K + 1, .c0 .., r, h => fun cx hn => integer_made_c0 (integer_made_all K) hn h
theorem qe8 {K : Nat} {neg : Bool} {abs : (List Int)} {r : qaB} (h : qgU K neg abs = some r) : qcX prog 105 [(TV.c (T.bool neg)), (tl 1 abs qaC)] (TV.agg (qaA r)) :=
  qa2 [[0,1]] (by kernel_rfl) (by simp) fun cx hn => integer_made_all K (.c0 neg abs) r h cx hn
end Go.Am.X
namespace Go.Am.X
open Go.Proofs.Try (prog)
inductive qoB where
  | c0 (neg : Bool) (a : (List Int))
def qjM : Nat → qoB → Option qaB
  | 0, _ => none
  | K + 1, .c0 neg a =>
    (qhH K a).bind fun x1 =>
    (qgU K neg x1).bind fun x3 =>
    some x3
def qjX (K : Nat) (neg : Bool) (a : (List Int)) : Option qaB := qjM K (.c0 neg a)
noncomputable def integer_From_body : Code := qbN prog 104
noncomputable def integer_From_pos : qoB → List Fr
  | .c0 .. => [.code integer_From_body]
def integer_From_st : qoB → St
  | .c0 neg a => St.init [(TV.c (T.bool neg)), (tl 1 a qaC)]
def integer_From_S (cx : Cx) (c : qoB) (r : qaB) : Prop := Wk prog cx (qcT prog 104 [[0,1]] (TV.agg (qaA r))) (integer_From_pos c) .normal (integer_From_st c)
abbrev integer_From_H (K : Nat) : Prop := ∀ c r, qjM K c = some r → ∀ cx : Cx, cx.n = 9 → integer_From_S cx c r
theorem integer_From_c0 {K} (_ : integer_From_H K) {cx} (hn : cx.n = 9) {neg a} {r} (h : qjM (K + 1) (.c0 neg a) = some r) : integer_From_S cx (.c0 neg a) r := by
  rw [qjM] at h
  obtain ⟨x1, h2, h⟩ := qaH h
  obtain ⟨x3, h4, h⟩ := qaH h
  have h := Option.some.inj h; subst h
  exact qaN (fuel := 54) [rgG [oo], rgG [oo, oo, opI (.call [[1]] [(tl 1 a qaC)] (tl 1 x1 qaC)), opI (.call [[0], [1]] [(TV.c (T.bool neg)), (tl 1 x1 qaC)] (TV.agg (qaA x3))), oo]] _ hn (by kernel_rfl) (aC (qeI h2) <| aC (qe8 h4) <| aN)
theorem integer_From_all : ∀ K : Nat, integer_From_H K
  | 0, c, r, h => by rw [qjM] at h; cases h
  | K + 1, .c0 .., r, h => fun cx hn => integer_From_c0 (integer_From_all K) hn h
theorem qiK {K : Nat} {neg : Bool} {a : (List Int)} {r : qaB} (h : qjX K neg a = some r) : qcX prog 104 [(TV.c (T.bool neg)), (tl 1 a qaC)] (TV.agg (qaA r)) :=
  qa2 [[0,1]] (by kernel_rfl) (by simp) fun cx hn => integer_From_all K (.c0 neg a) r h cx hn
end Go.Am.X
namespace Go.Am.X
open Go.Proofs.Try (prog)
inductive qr7 where
  | c0 (n : Int)
def qmT : Nat → qr7 → Option qaB
  | 0, _ => none
  | K + 1, .c0 n =>
    bif (decide (n < (0 : Int))) then
      (qtY K (wU6 (0 - (wU6 n)))).bind fun x2 =>
      (qgU K true x2).bind fun x4 =>
      some x4
    else
      (qtY K (wU6 n)).bind fun x2 =>
      (qgU K false x2).bind fun x4 =>
      some x4
def qh9 (K : Nat) (n : Int) : Option qaB := qmT K (.c0 n)
noncomputable def integer_Of_body : Code := qbN prog 71
noncomputable def integer_Of_pos : qr7 → List Fr
  | .c0 .. => [.code integer_Of_body]
def integer_Of_st : qr7 → St
  | .c0 n => St.init [(ti .i64 n)]
def integer_Of_S (cx : Cx) (c : qr7) (r : qaB) : Prop := Wk prog cx (qcT prog 71 [[0,1]] (TV.agg (qaA r))) (integer_Of_pos c) .normal (integer_Of_st c)
abbrev integer_Of_H (K : Nat) : Prop := ∀ c r, qmT K c = some r → ∀ cx : Cx, cx.n = 14 → integer_Of_S cx c r
theorem integer_Of_c0 {K} (_ : integer_Of_H K) {cx} (hn : cx.n = 14) {n} {r} (h : qmT (K + 1) (.c0 n) = some r) : integer_Of_S cx (.c0 n) r := by
  rw [qmT] at h
  rcases qaK h with ⟨h1, h⟩ | ⟨h1, h⟩
  · skip
    obtain ⟨x2, h3, h⟩ := qaH h
    obtain ⟨x4, h5, h⟩ := qaH h
    have h := Option.some.inj h; subst h
    exact qaN (fuel := 72) [rgG [oo], rgG [oo, oo], .br true, rgG [oo, oo, oo, opI (.call [[0]] [(TV.c (T.int .u64 (wU6 (0 - (wU6 n)))))] (tl 1 x2 qaC)), opI (.call [[0], [1]] [(TV.c (T.bool true)), (tl 1 x2 qaC)] (TV.agg (qaA x4))), oo]] _ hn (by kernel_rfl) (aC h1 <| aC (qsZ h3) <| aC (qe8 h5) <| aN)
  · skip
    obtain ⟨x2, h3, h⟩ := qaH h
    obtain ⟨x4, h5, h⟩ := qaH h
    have h := Option.some.inj h; subst h
    exact qaN (fuel := 72) [rgG [oo], rgG [oo, oo], .br false, rgG [oo, oo, opI (.call [[0]] [(TV.c (T.int .u64 (wU6 n)))] (tl 1 x2 qaC)), opI (.call [[0], [1]] [(TV.c (T.bool false)), (tl 1 x2 qaC)] (TV.agg (qaA x4))), oo]] _ hn (by kernel_rfl) (aC h1 <| aC (qsZ h3) <| aC (qe8 h5) <| aN)
theorem integer_Of_all : ∀ K : Nat, integer_Of_H K
  | 0, c, r, h => by rw [qmT] at h; cases h
  | K + 1, .c0 .., r, h => fun cx hn => integer_Of_c0 (integer_Of_all K) hn h
theorem qfH {K : Nat} {n : Int} {r : qaB} (h : qh9 K n = some r) : qcX prog 71 [(ti .i64 n)] (TV.agg (qaA r)) :=
  qa2 [[0,1]] (by kernel_rfl) (by simp) fun cx hn => integer_Of_all K (.c0 n) r h cx hn
end Go.Am.X
namespace Go.Am.X
open Go.Proofs.Try (prog)
inductive qn9 where
  | c0 (a : qaB)
def qjJ : Nat → qn9 → Option Int
  | 0, _ => none
  | K + 1, .c0 a =>
    (qkV K a.Abs).bind fun x1 =>
    bif x1 then
      some (0 : Int)
    else
      bif a.Neg then
        some (-1 : Int)
      else
        some (1 : Int)
def qiJ (K : Nat) (a : qaB) : Option Int := qjJ K (.c0 a)
noncomputable def integer_Sign_body : Code := qbN prog 47
noncomputable def integer_Sign_pos : qn9 → List Fr
  | .c0 .. => [.code integer_Sign_body]
def integer_Sign_st : qn9 → St
  | .c0 a => St.init [(TV.agg (qaA a))]
def integer_Sign_S (cx : Cx) (c : qn9) (r : Int) : Prop := Wk prog cx (qcT prog 47 [[0]] (ti .i64 r)) (integer_Sign_pos c) .normal (integer_Sign_st c)
abbrev integer_Sign_H (K : Nat) : Prop := ∀ c r, qjJ K c = some r → ∀ cx : Cx, cx.n = 10 → integer_Sign_S cx c r
theorem integer_Sign_c0 {K} (_ : integer_Sign_H K) {cx} (hn : cx.n = 10) {a} {r} (h : qjJ (K + 1) (.c0 a) = some r) : integer_Sign_S cx (.c0 a) r := by
  rw [qjJ] at h
  obtain ⟨x1, h2, h⟩ := qaH h
  rcases qaK h with ⟨h3, h⟩ | ⟨h3, h⟩
  · skip
    have h := Option.some.inj h; subst h
    exact qaN (fuel := 76) [rgG [oo, oo], rgG [oo, oo, opI (.call [[1]] [(TV.c (T.sl 1 (a.Abs.map qaC)))] (TV.c (T.bool x1))), oo], .br true, rgG [oo]] _ hn (by kernel_rfl) (aC (qfY h2) <| aC h3 <| aN)
  · skip
    rcases qaK h with ⟨h4, h⟩ | ⟨h4, h⟩
    · skip
      have h := Option.some.inj h; subst h
      exact qaN (fuel := 90) [rgG [oo, oo], rgG [oo, oo, opI (.call [[1]] [(TV.c (T.sl 1 (a.Abs.map qaC)))] (TV.c (T.bool x1))), oo], .br false, rgG [oo, oo, oo], .br true, rgG [oo]] _ hn (by kernel_rfl) (aC (qfY h2) <| aC h3 <| aC h4 <| aN)
    · skip
      have h := Option.some.inj h; subst h
      exact qaN (fuel := 90) [rgG [oo, oo], rgG [oo, oo, opI (.call [[1]] [(TV.c (T.sl 1 (a.Abs.map qaC)))] (TV.c (T.bool x1))), oo], .br false, rgG [oo, oo, oo], .br false, rgG [oo]] _ hn (by kernel_rfl) (aC (qfY h2) <| aC h3 <| aC h4 <| aN)
theorem integer_Sign_all : ∀ K : Nat, integer_Sign_H K
  | 0, c, r, h => by rw [qjJ] at h; cases h
  | K + 1, .c0 .., r, h => fun cx hn => integer_Sign_c0 (integer_Sign_all K) hn h
theorem qbC {K : Nat} {a : qaB} {r : Int} (h : qiJ K a = some r) : qcX prog 47 [(TV.agg (qaA a))] (ti .i64 r) :=
  qa2 [[0]] (by kernel_rfl) (by simp) fun cx hn => integer_Sign_all K (.c0 a) r h cx hn
end Go.Am.X
namespace Go.Am.X
open Go.Proofs.Try (prog)
inductive qqJ where
  | c0 (a : qaB) (b : qaB)
def qk0 : Nat → qqJ → Option Int
  | 0, _ => none
  | K + 1, .c0 a b =>
    (qiJ K a).bind fun x1 =>
    (qiJ K b).bind fun x3 =>
    bif (decide (x3 < x1)) then
      some (1 : Int)
    else
      bif (decide (x1 < x3)) then
        some (-1 : Int)
      else
        bif (decide (x1 < (0 : Int))) then
          (ql2 K b.Abs a.Abs).bind fun x8 =>
          some x8
        else
          (ql2 K a.Abs b.Abs).bind fun x8 =>
          some x8
def qiQ (K : Nat) (a : qaB) (b : qaB) : Option Int := qk0 K (.c0 a b)
noncomputable def integer_Cmp_body : Code := qbN prog 55
noncomputable def integer_Cmp_pos : qqJ → List Fr
  | .c0 .. => [.code integer_Cmp_body]
def integer_Cmp_st : qqJ → St
  | .c0 a b => St.init [(TV.agg (qaA a)), (TV.agg (qaA b))]
def integer_Cmp_S (cx : Cx) (c : qqJ) (r : Int) : Prop := Wk prog cx (qcT prog 55 [[0]] (ti .i64 r)) (integer_Cmp_pos c) .normal (integer_Cmp_st c)
abbrev integer_Cmp_H (K : Nat) : Prop := ∀ c r, qk0 K c = some r → ∀ cx : Cx, cx.n = 32 → integer_Cmp_S cx c r
theorem integer_Cmp_c0 {K} (_ : integer_Cmp_H K) {cx} (hn : cx.n = 32) {a b} {r} (h : qk0 (K + 1) (.c0 a b) = some r) : integer_Cmp_S cx (.c0 a b) r := by
  rw [qk0] at h
  obtain ⟨x1, h2, h⟩ := qaH h
  obtain ⟨x3, h4, h⟩ := qaH h
  rcases qaK h with ⟨h5, h⟩ | ⟨h5, h⟩
  · skip
    have h := Option.some.inj h; subst h
    exact qaN (fuel := 84) [rgG [oo, oo, oo], .draw [.p, (.call [[0,1]] [(TV.agg (qaA a))] (ti .i64 x1)), .p] [opI (.call [[0,1]] [(TV.agg (qaA b))] (ti .i64 x3)), .op .p, .op .p], rgG [oo, oo, oo, oo], .br true, rgG [oo]] _ hn (by kernel_rfl) (aC (qbC h2) <| aC (qbC h4) <| aC h5 <| aN)
  · skip
    rcases qaK h with ⟨h6, h⟩ | ⟨h6, h⟩
    · skip
      have h := Option.some.inj h; subst h
      exact qaN (fuel := 98) [rgG [oo, oo, oo], .draw [.p, (.call [[0,1]] [(TV.agg (qaA a))] (ti .i64 x1)), .p] [opI (.call [[0,1]] [(TV.agg (qaA b))] (ti .i64 x3)), .op .p, .op .p], rgG [oo, oo, oo, oo], .br false, rgG [oo, oo, oo, oo], .br true, rgG [oo]] _ hn (by kernel_rfl) (aC (qbC h2) <| aC (qbC h4) <| aC h5 <| aC h6 <| aN)
    · skip
      rcases qaK h with ⟨h7, h⟩ | ⟨h7, h⟩
      · skip
        obtain ⟨x8, h9, h⟩ := qaH h
        have h := Option.some.inj h; subst h
        exact qaN (fuel := 112) [rgG [oo, oo, oo], .draw [.p, (.call [[0,1]] [(TV.agg (qaA a))] (ti .i64 x1)), .p] [opI (.call [[0,1]] [(TV.agg (qaA b))] (ti .i64 x3)), .op .p, .op .p], rgG [oo, oo, oo, oo], .br false, rgG [oo, oo, oo, oo], .br false, rgG [oo, oo, oo], .br true, rgG [oo, oo, oo, oo, opI (.call [[1], [1]] [(TV.c (T.sl 1 (b.Abs.map qaC))), (TV.c (T.sl 1 (a.Abs.map qaC)))] (ti .i64 x8)), oo]] _ hn (by kernel_rfl) (aC (qbC h2) <| aC (qbC h4) <| aC h5 <| aC h6 <| aC h7 <| aC (qeB h9) <| aN)
      · skip
        obtain ⟨x8, h9, h⟩ := qaH h
        have h := Option.some.inj h; subst h
        exact qaN (fuel := 112) [rgG [oo, oo, oo], .draw [.p, (.call [[0,1]] [(TV.agg (qaA a))] (ti .i64 x1)), .p] [opI (.call [[0,1]] [(TV.agg (qaA b))] (ti .i64 x3)), .op .p, .op .p], rgG [oo, oo, oo, oo], .br false, rgG [oo, oo, oo, oo], .br false, rgG [oo, oo, oo], .br false, rgG [oo, oo, oo, oo, opI (.call [[1], [1]] [(TV.c (T.sl 1 (a.Abs.map qaC))), (TV.c (T.sl 1 (b.Abs.map qaC)))] (ti .i64 x8)), oo]] _ hn (by kernel_rfl) (aC (qbC h2) <| aC (qbC h4) <| aC h5 <| aC h6 <| aC h7 <| aC (qeB h9) <| aN)
theorem integer_Cmp_all : ∀ K : Nat, integer_Cmp_H K
  | 0, c, r, h => by rw [qk0] at h; cases h
  | K + 1, .c0 .., r, h => fun cx hn => integer_Cmp_c0 (integer_Cmp_all K) hn h
theorem qd0 {K : Nat} {a : qaB} {b : qaB} {r : Int} (h : qiQ K a b = some r) : qcX prog 55 [(TV.agg (qaA a)), (TV.agg (qaA b))] (ti .i64 r) :=
  qa2 [[0]] (by kernel_rfl) (by simp) fun cx hn => integer_Cmp_all K (.c0 a b) r h cx hn
end Go.Am.X
namespace Go.Am.X
open Go.Proofs.Try (prog)
inductive qqI where
  | c0 (a : qaB) (b : qaB)
def qkZ : Nat → qqI → Option qaB
  | 0, _ => none
  | K + 1, .c0 a b =>
    (natural_Mul K a.Abs b.Abs).bind fun x1 =>
    (qgU K (!(a.Neg == b.Neg)) x1).bind fun x3 =>
    some x3
def qdI (K : Nat) (a : qaB) (b : qaB) : Option qaB := qkZ K (.c0 a b)
noncomputable def integer_Mul_body : Code := qbN prog 74
noncomputable def integer_Mul_pos : qqI → List Fr
  | .c0 .. => [.code integer_Mul_body]
def integer_Mul_st : qqI → St
  | .c0 a b => St.init [(TV.agg (qaA a)), (TV.agg (qaA b))]
def integer_Mul_S (cx : Cx) (c : qqI) (r : qaB) : Prop := Wk prog cx (qcT prog 74 [[0,1]] (TV.agg (qaA r))) (integer_Mul_pos c) .normal (integer_Mul_st c)
abbrev integer_Mul_H (K : Nat) : Prop := ∀ c r, qkZ K c = some r → ∀ cx : Cx, cx.n = 16 → integer_Mul_S cx c r
theorem integer_Mul_c0 {K} (_ : integer_Mul_H K) {cx} (hn : cx.n = 16) {a b} {r} (h : qkZ (K + 1) (.c0 a b) = some r) : integer_Mul_S cx (.c0 a b) r := by
  rw [qkZ] at h
  obtain ⟨x1, h2, h⟩ := qaH h
  obtain ⟨x3, h4, h⟩ := qaH h
  have h := Option.some.inj h; subst h
  exact qaN (fuel := 54) [rgG [oo, oo, oo], .draw [.p, .p, .p, .p, .p, .p, .p, .p, .p, (.call [[1], [1]] [(TV.c (T.sl 1 (a.Abs.map qaC))), (TV.c (T.sl 1 (b.Abs.map qaC)))] (tl 1 x1 qaC))] [opI (.call [[0], [1]] [(TV.c (T.bool (!(a.Neg == b.Neg)))), (tl 1 x1 qaC)] (TV.agg (qaA x3))), .op .p]] _ hn (by kernel_rfl) (aC (natural_Mul_holds h2) <| aC (qe8 h4) <| aN)
theorem integer_Mul_all : ∀ K : Nat, integer_Mul_H K
  | 0, c, r, h => by rw [qkZ] at h; cases h
  | K + 1, .c0 .., r, h => fun cx hn => integer_Mul_c0 (integer_Mul_all K) hn h
theorem qbT {K : Nat} {a : qaB} {b : qaB} {r : qaB} (h : qdI K a b = some r) : qcX prog 74 [(TV.agg (qaA a)), (TV.agg (qaA b))] (TV.agg (qaA r)) :=
  qa2 [[0,1]] (by kernel_rfl) (by simp) fun cx hn => integer_Mul_all K (.c0 a b) r h cx hn
end Go.Am.X
namespace Go.Am.X
open Go.Proofs.Try (prog)
inductive qqL where
  | c0 (a : qaB)
def qk3 : Nat → qqL → Option qaB
  | 0, _ => none
  | K + 1, .c0 a =>
    (qjX K false a.Abs).bind fun x1 =>
    some x1
def qg7 (K : Nat) (a : qaB) : Option qaB := qk3 K (.c0 a)
noncomputable def integer_Abs_body : Code := qbN prog 53
noncomputable def integer_Abs_pos : qqL → List Fr
  | .c0 .. => [.code integer_Abs_body]
def integer_Abs_st : qqL → St
  | .c0 a => St.init [(TV.agg (qaA a))]
def integer_Abs_S (cx : Cx) (c : qqL) (r : qaB) : Prop := Wk prog cx (qcT prog 53 [[0,1]] (TV.agg (qaA r))) (integer_Abs_pos c) .normal (integer_Abs_st c)
abbrev integer_Abs_H (K : Nat) : Prop := ∀ c r, qk3 K c = some r → ∀ cx : Cx, cx.n = 6 → integer_Abs_S cx c r
theorem integer_Abs_c0 {K} (_ : integer_Abs_H K) {cx} (hn : cx.n = 6) {a} {r} (h : qk3 (K + 1) (.c0 a) = some r) : integer_Abs_S cx (.c0 a) r := by
  rw [qk3] at h
  obtain ⟨x1, h2, h⟩ := qaH h
  have h := Option.some.inj h; subst h
  exact qaN (fuel := 54) [rgG [oo, oo], rgG [oo, oo, opI (.call [[0], [1]] [(TV.c (T.bool false)), (TV.c (T.sl 1 (a.Abs.map qaC)))] (TV.agg (qaA x1))), oo]] _ hn (by kernel_rfl) (aC (qiK h2) <| aN)
theorem integer_Abs_all : ∀ K : Nat, integer_Abs_H K
  | 0, c, r, h => by rw [qk3] at h; cases h
  | K + 1, .c0 .., r, h => fun cx hn => integer_Abs_c0 (integer_Abs_all K) hn h
theorem qdA {K : Nat} {a : qaB} {r : qaB} (h : qg7 K a = some r) : qcX prog 53 [(TV.agg (qaA a))] (TV.agg (qaA r)) :=
  qa2 [[0,1]] (by kernel_rfl) (by simp) fun cx hn => integer_Abs_all K (.c0 a) r h cx hn
end Go.Am.X
namespace Go.Am.X
open Go.Proofs.Try (prog)
inductive qoA where
  | c0 (a : qaB) (b : qaB)
def qjL : Nat → qoA → Option Bool
  | 0, _ => none
  | K + 1, .c0 a b =>
    (qiQ K a b).bind fun x1 =>
    some (decide (x1 = (0 : Int)))
def qvS (K : Nat) (a : qaB) (b : qaB) : Option Bool := qjL K (.c0 a b)
noncomputable def integer_Same_body : Code := qbN prog 98
noncomputable def integer_Same_pos : qoA → List Fr
  | .c0 .. => [.code integer_Same_body]
def integer_Same_st : qoA → St
  | .c0 a b => St.init [(TV.agg (qaA a)), (TV.agg (qaA b))]
def integer_Same_S (cx : Cx) (c : qoA) (r : Bool) : Prop := Wk prog cx (qcT prog 98 [[0]] (TV.c (T.bool r))) (integer_Same_pos c) .normal (integer_Same_st c)
abbrev integer_Same_H (K : Nat) : Prop := ∀ c r, qjL K c = some r → ∀ cx : Cx, cx.n = 9 → integer_Same_S cx c r
theorem integer_Same_c0 {K} (_ : integer_Same_H K) {cx} (hn : cx.n = 9) {a b} {r} (h : qjL (K + 1) (.c0 a b) = some r) : integer_Same_S cx (.c0 a b) r := by
  rw [qjL] at h
  obtain ⟨x1, h2, h⟩ := qaH h
  have h := Option.some.inj h; subst h
  exact qaN (fuel := 54) [rgG [oo, oo, oo], rgG [oo, oo, opI (.call [[0,1], [0,1]] [(TV.agg (qaA a)), (TV.agg (qaA b))] (ti .i64 x1)), oo, oo]] _ hn (by kernel_rfl) (aC (qd0 h2) <| aN)
theorem integer_Same_all : ∀ K : Nat, integer_Same_H K
  | 0, c, r, h => by rw [qjL] at h; cases h
  | K + 1, .c0 .., r, h => fun cx hn => integer_Same_c0 (integer_Same_all K) hn h
theorem qvR {K : Nat} {a : qaB} {b : qaB} {r : Bool} (h : qvS K a b = some r) : qcX prog 98 [(TV.agg (qaA a)), (TV.agg (qaA b))] (TV.c (T.bool r)) :=
  qa2 [[0]] (by kernel_rfl) (by simp) fun cx hn => integer_Same_all K (.c0 a b) r h cx hn
end Go.Am.X
namespace Go.Am.X
open Go.Proofs.Try (prog)
inductive qqH where
  | c0 (a : qaB)
def qkY : Nat → qqH → Option qaB
  | 0, _ => none
  | K + 1, .c0 a =>
    (qjX K (!a.Neg) a.Abs).bind fun x1 =>
    some x1
def integer_Neg (K : Nat) (a : qaB) : Option qaB := qkY K (.c0 a)
noncomputable def integer_Neg_body : Code := qbN prog 127
noncomputable def integer_Neg_pos : qqH → List Fr
  | .c0 .. => [.code integer_Neg_body]
def integer_Neg_st : qqH → St
  | .c0 a => St.init [(TV.agg (qaA a))]
def integer_Neg_S (cx : Cx) (c : qqH) (r : qaB) : Prop := Wk prog cx (qcT prog 127 [[0,1]] (TV.agg (qaA r))) (integer_Neg_pos c) .normal (integer_Neg_st c)
abbrev integer_Neg_H (K : Nat) : Prop := ∀ c r, qkY K c = some r → ∀ cx : Cx, cx.n = 9 → integer_Neg_S cx c r
theorem integer_Neg_c0 {K} (_ : integer_Neg_H K) {cx} (hn : cx.n = 9) {a} {r} (h : qkY (K + 1) (.c0 a) = some r) : integer_Neg_S cx (.c0 a) r := by
  rw [qkY] at h
  obtain ⟨x1, h2, h⟩ := qaH h
  have h := Option.some.inj h; subst h
  exact qaN (fuel := 54) [rgG [oo, oo], rgG [oo, oo, oo, oo, oo, opI (.call [[0], [1]] [(TV.c (T.bool (!a.Neg))), (TV.c (T.sl 1 (a.Abs.map qaC)))] (TV.agg (qaA x1))), oo]] _ hn (by kernel_rfl) (aC (qiK h2) <| aN)
theorem integer_Neg_all : ∀ K : Nat, integer_Neg_H K
  | 0, c, r, h => by rw [qkY] at h; cases h
  | K + 1, .c0 .., r, h => fun cx hn => integer_Neg_c0 (integer_Neg_all K) hn h
theorem integer_Neg_holds {K : Nat} {a : qaB} {r : qaB} (h : integer_Neg K a = some r) : qcX prog 127 [(TV.agg (qaA a))] (TV.agg (qaA r)) :=
  qa2 [[0,1]] (by kernel_rfl) (by simp) fun cx hn => integer_Neg_all K (.c0 a) r h cx hn
end Go.Am.X
namespace Go.Am.X
open Go.Proofs.Try (prog)
inductive qlR where
  | c0 (a : qaB)
def qhP : Nat → qlR → Option qaB
  | 0, _ => none
  | K + 1, .c0 a =>
    (qjX K a.Neg a.Abs).bind fun x1 =>
    some x1
def qiP (K : Nat) (a : qaB) : Option qaB := qhP K (.c0 a)
noncomputable def integer_Normal_body : Code := qbN prog 87
noncomputable def integer_Normal_pos : qlR → List Fr
  | .c0 .. => [.code integer_Normal_body]
def integer_Normal_st : qlR → St
  | .c0 a => St.init [(TV.agg (qaA a))]
def integer_Normal_S (cx : Cx) (c : qlR) (r : qaB) : Prop := Wk prog cx (qcT prog 87 [[0,1]] (TV.agg (qaA r))) (integer_Normal_pos c) .normal (integer_Normal_st c)
abbrev integer_Normal_H (K : Nat) : Prop := ∀ c r, qhP K c = some r → ∀ cx : Cx, cx.n = 8 → integer_Normal_S cx c r
theorem integer_Normal_c0 {K} (_ : integer_Normal_H K) {cx} (hn : cx.n = 8) {a} {r} (h : qhP (K + 1) (.c0 a) = some r) : integer_Normal_S cx (.c0 a) r := by
  rw [qhP] at h
  obtain ⟨x1, h2, h⟩ := qaH h
  have h := Option.some.inj h; subst h
  exact qaN (fuel := 54) [rgG [oo, oo], rgG [oo, oo, oo, oo, opI (.call [[0], [1]] [(TV.c (T.bool a.Neg)), (TV.c (T.sl 1 (a.Abs.map qaC)))] (TV.agg (qaA x1))), oo]] _ hn (by kernel_rfl) (aC (qiK h2) <| aN)
theorem qvT : ∀ K : Nat, integer_Normal_H K
  | 0, c, r, h => by rw [qhP] at h; cases h
  | K + 1, .c0 .., r, h => fun cx hn => integer_Normal_c0 (qvT K) hn h
theorem qiY {K : Nat} {a : qaB} {r : qaB} (h : qiP K a = some r) : qcX prog 87 [(TV.agg (qaA a))] (TV.agg (qaA r)) :=
  qa2 [[0,1]] (by kernel_rfl) (by simp) fun cx hn => qvT K (.c0 a) r h cx hn
end Go.Am.X
namespace Go.Am.X
open Go.Proofs.Try (prog)
inductive qmW where
  | c0 (a : qaB)
def qiA : Nat → qmW → Option Bool
  | 0, _ => none
  | K + 1, .c0 a =>
    (qkV K a.Abs).bind fun x1 =>
    some x1
def qfT (K : Nat) (a : qaB) : Option Bool := qiA K (.c0 a)
noncomputable def division_zero_body : Code := qbN prog 146
noncomputable def division_zero_pos : qmW → List Fr
  | .c0 .. => [.code division_zero_body]
def division_zero_st : qmW → St
  | .c0 a => St.init [(TV.agg (qaA a))]
def division_zero_S (cx : Cx) (c : qmW) (r : Bool) : Prop := Wk prog cx (qcT prog 146 [[0]] (TV.c (T.bool r))) (division_zero_pos c) .normal (division_zero_st c)
abbrev division_zero_H (K : Nat) : Prop := ∀ c r, qiA K c = some r → ∀ cx : Cx, cx.n = 6 → division_zero_S cx c r
theorem division_zero_c0 {K} (_ : division_zero_H K) {cx} (hn : cx.n = 6) {a} {r} (h : qiA (K + 1) (.c0 a) = some r) : division_zero_S cx (.c0 a) r := by
  rw [qiA] at h
  obtain ⟨x1, h2, h⟩ := qaH h
  have h := Option.some.inj h; subst h
  exact qaN (fuel := 54) [rgG [oo, oo], rgG [oo, oo, opI (.call [[1]] [(TV.c (T.sl 1 (a.Abs.map qaC)))] (TV.c (T.bool x1))), oo]] _ hn (by kernel_rfl) (aC (qfY h2) <| aN)
theorem division_zero_all : ∀ K : Nat, division_zero_H K
  | 0, c, r, h => by rw [qiA] at h; cases h
  | K + 1, .c0 .., r, h => fun cx hn => division_zero_c0 (division_zero_all K) hn h
theorem qb4 {K : Nat} {a : qaB} {r : Bool} (h : qfT K a = some r) : qcX prog 146 [(TV.agg (qaA a))] (TV.c (T.bool r)) :=
  qa2 [[0]] (by kernel_rfl) (by simp) fun cx hn => division_zero_all K (.c0 a) r h cx hn
end Go.Am.X
namespace Go.Am.X
open Go.Proofs.Try (prog)
inductive qiL where
  | c0 
def qfZ : Nat → qiL → Option qaB
  | 0, _ => none
  | K + 1, .c0  =>
    (qh9 K (1 : Int)).bind fun x1 =>
    some x1
def qmZ (K : Nat) : Option qaB := qfZ K .c0
noncomputable def cylinderlaw12_one_body : Code := qbN prog 109
noncomputable def cylinderlaw12_one_pos : qiL → List Fr
  | .c0  => [.code cylinderlaw12_one_body]
def cylinderlaw12_one_st : qiL → St
  | .c0  => St.init []
def qvA (cx : Cx) (c : qiL) (r : qaB) : Prop := Wk prog cx (qcT prog 109 [[0,1]] (TV.agg (qaA r))) (cylinderlaw12_one_pos c) .normal (cylinderlaw12_one_st c)
abbrev qvB (K : Nat) : Prop := ∀ c r, qfZ K c = some r → ∀ cx : Cx, cx.n = 2 → qvA cx c r
theorem cylinderlaw12_one_c0 {K} (_ : qvB K) {cx} (hn : cx.n = 2)  {r} (h : qfZ (K + 1) .c0 = some r) : qvA cx .c0 r := by
  rw [qfZ] at h
  obtain ⟨x1, h2, h⟩ := qaH h
  have h := Option.some.inj h; subst h
  exact qaN (fuel := 54) [rgG [oo], rgG [opI (.call [[0]] [(TV.c (T.int .i64 (1 : Int)))] (TV.agg (qaA x1))), oo]] _ hn (by kernel_rfl) (aC (qfH h2) <| aN)
theorem qsN : ∀ K : Nat, qvB K
  | 0, c, r, h => by rw [qfZ] at h; cases h
  | K + 1, .c0, r, h => fun cx hn => cylinderlaw12_one_c0 (qsN K) hn h
theorem cylinderlaw12_one_holds {K : Nat}  {r : qaB} (h : qmZ K  = some r) : qcX prog 109 [] (TV.agg (qaA r)) :=
  qa2 [[0,1]] (by kernel_rfl) (by simp) fun cx hn => qsN K .c0 r h cx hn
end Go.Am.X
namespace Go.Am.X
open Go.Proofs.Try (prog)
inductive qhD where
  | c0 (p : Int) (k : Int)
  | c1 (b4 : qaB) (x : qaB) (p : Int) (t7 : Int) (t8 : Int)
def qb7 : Nat → qhD → Option qaB
  | 0, _ => none
  | K + 1, .c0 p k =>
    (qmZ K ).bind fun x1 =>
    qb7 K (.c1 (qaB.mk false []) x1 p k (0 : Int))
  | K + 1, .c1 b4 x p t7 t8 =>
    bif (decide (t8 < t7)) then
      (qh9 K (wI6 p)).bind fun x2 =>
      (qdI K x x2).bind fun x4 =>
      qb7 K (.c1 b4 x4 p t7 (wI6 (t8 + (1 : Int))))
    else
      some x
def qhW (K : Nat) (p : Int) (k : Int) : Option qaB := qb7 K (.c0 p k)
noncomputable def qjS : Code := qbN prog 56
noncomputable def cylinderlaw12_power_pos : qhD → List Fr
  | .c0 .. => [.code qjS]
  | .c1 .. => [.code (.loop (atC qjS [1,1,0,1,0,0])), .blk 0, .code (atC qjS [1,1,1])]
def cylinderlaw12_power_st : qhD → St
  | .c0 p k => St.init [(ti .u32 p), (ti .i64 k)]
  | .c1 b4 x p t7 t8 => ⟨[(0, vi .u32 p), (4, .c (C.ptr 4 0)), (5, .c (C.ptr 5 0)), (7, vi .i64 t7), (8, vi .i64 t8)], [(4, .var ((qaA b4).map C.t)), (5, .var ((qaA x).map C.t))], []⟩
def qmB (cx : Cx) (c : qhD) (r : qaB) : Prop := Wk prog cx (qcT prog 56 [[0,1]] (TV.agg (qaA r))) (cylinderlaw12_power_pos c) .normal (cylinderlaw12_power_st c)
abbrev qmC (K : Nat) : Prop := ∀ c r, qb7 K c = some r → ∀ cx : Cx, cx.n = 17 → qmB cx c r
theorem cylinderlaw12_power_c0 {K} (ih : qmC K) {cx} (hn : cx.n = 17) {p k} {r} (h : qb7 (K + 1) (.c0 p k) = some r) : qmB cx (.c0 p k) r := by
  rw [qb7] at h
  obtain ⟨x1, h2, h⟩ := qaH h
  exact qaU (fuel := 64) [rgG [oo], rgG [opI (.call [] [] (TV.agg (qaA x1))), oo, oo], rgG [oo, oo], .pre [.tellB 4 [0,1], .keep [0,4,5,7,8] [4,5]]] _ hn (by kernel_rfl) (aC (cylinderlaw12_one_holds h2) <| aN) (ih _ _ h cx hn)
theorem cylinderlaw12_power_c1 {K} (ih : qmC K) {cx} (hn : cx.n = 17) {b4 x p t7 t8} {r} (h : qb7 (K + 1) (.c1 b4 x p t7 t8) = some r) : qmB cx (.c1 b4 x p t7 t8) r := by
  rw [qb7] at h
  rcases qaK h with ⟨h1, h⟩ | ⟨h1, h⟩
  · skip
    obtain ⟨x2, h3, h⟩ := qaH h
    obtain ⟨x4, h5, h⟩ := qaH h
    exact qaU (fuel := 82) [.go, rgG [oo], .br true, .draw [.p, .p, .p, (.call [[0]] [(TV.c (T.int .i64 (wI6 p)))] (TV.agg (qaA x2)))] [opI (.call [[0,1], [0,1]] [(TV.agg (qaA x)), (TV.agg (qaA x2))] (TV.agg (qaA x4))), .op .p], rgG [oo, oo], .pre [.keep [0,4,5,7,8] [4,5]]] _ hn (by kernel_rfl) (aC h1 <| aC (qfH h3) <| aC (qbT h5) <| aN) (ih _ _ h cx hn)
  · skip
    have h := Option.some.inj h; subst h
    exact qaN (fuel := 78) [.go, rgG [oo], .br false, rgG [oo, oo]] _ hn (by kernel_rfl) (aC h1 <| aN)
theorem qkL : ∀ K : Nat, qmC K
  | 0, c, r, h => by rw [qb7] at h; cases h
  | K + 1, .c0 .., r, h => fun cx hn => cylinderlaw12_power_c0 (qkL K) hn h
  | K + 1, .c1 .., r, h => fun cx hn => cylinderlaw12_power_c1 (qkL K) hn h
theorem qgG {K : Nat} {p : Int} {k : Int} {r : qaB} (h : qhW K p k = some r) : qcX prog 56 [(ti .u32 p), (ti .i64 k)] (TV.agg (qaA r)) :=
  qa2 [[0,1]] (by kernel_rfl) (by simp) fun cx hn => qkL K (.c0 p k) r h cx hn
end Go.Am.X
namespace Go.Am.X
def ival (a : qaB) : Int := bif a.Neg then -val a.Abs else val a.Abs
def mkI (z : Int) : qaB := ⟨decide (z < 0), digs z.natAbs⟩
theorem qd5 (z : Int) : ival (mkI z) = z := by
  unfold ival mkI
  simp only [qe6 (Int.natCast_nonneg _)]
  by_cases h : z < 0
  · simp only [h, decide_true, cond_true]; omega
  · simp only [h, decide_false, cond_false]; omega
theorem qjH (z : Int) : Dig (mkI z).Abs := qdT _
theorem mkI_pos {z : Int} (h : 0 ≤ z) : mkI z = ⟨false, digs z⟩ := by
  unfold mkI
  rw [show (z.natAbs : Int) = z by omega, decide_eq_false (by omega)]
theorem mkI_neg {z : Int} (h : z < 0) : mkI z = ⟨true, digs (-z)⟩ := by
  unfold mkI
  rw [show (z.natAbs : Int) = -z by omega, decide_eq_true h]
theorem mkI_inj {x y : Int} (h : mkI x = mkI y) : x = y := by rw [← qd5 x, ← qd5 y, h]
theorem mkI_len {z : Int} {n : Nat} (h1 : -(4294967296 ^ n) < z) (h2 : z < 4294967296 ^ n) : (mkI z).Abs.length ≤ n := qo0 (by omega)
theorem qsT (a : qaB) (h : Dig a.Abs) : val a.Abs = (ival a).natAbs := by
  have := qbB h
  unfold ival
  cases a.Neg <;> simp <;> omega
theorem qfB (x y : Int) : (x < y ∧ cmpI x y = -1) ∨ (x = y ∧ cmpI x y = 0) ∨ (y < x ∧ cmpI x y = 1) := by
  unfold cmpI
  split
  · omega
  · split <;> omega
theorem ipow_le {x y : Int} (h0 : 0 ≤ x) (h : x ≤ y) : ∀ n : Nat, x ^ n ≤ y ^ n
  | 0 => by simp
  | n + 1 => by
    rw [Int.pow_succ, Int.pow_succ]
    exact Int.mul_le_mul (ipow_le h0 h n) h h0 (Int.pow_nonneg (by omega))
theorem qgT (neg : Bool) {z : Int} (h : 0 ≤ z) : Ev (fun K => qgU K neg (digs z)) (mkI (bif neg then -z else z)) := by
  refine qaS ?_
  simp only [qgU, qjI]
  have hn := qjY h
  cases neg
  · refine ev_f rfl (qe5 (qa3 _) ?_)
    rw [cond_false, mkI_pos h]
  · refine ev_t rfl (qe5 (qa3 _) ?_)
    rw [cond_true]
    by_cases hz : z = 0
    · subst hz; rw [qfV, Int.neg_zero, mkI_pos (Int.le_refl 0), qfV]; rfl
    · rw [mkI_neg (by omega), Int.neg_neg]
      congr 1
      rw [decide_eq_true_iff]
      have : digs z ≠ [] := fun e => hz (hn.1 e)
      have := List.length_pos_iff.2 this
      omega
theorem ql9 (neg : Bool) {a : List Int} (h : Dig a) (hs : a.length ≤ 34359738368) : Ev (fun K => qjX K neg a) (mkI (bif neg then -val a else val a)) := by
  refine qaS ?_
  simp only [qjX, qjM]
  exact qaP (qmN h hs) (qaP (qgT neg (qbB h)) (qa3 _))
theorem qqG {n : Int} (h : -9223372036854775808 ≤ n ∧ n < 9223372036854775808) : Ev (fun K => qh9 K n) (mkI n) := by
  refine qaS ?_
  simp only [qh9, qmT, qsS]
  by_cases hn : n < 0
  · refine ev_t (by simpa using hn) ?_
    rw [show (0 - n % 18446744073709551616) % 18446744073709551616 = -n by omega]
    have := qgT true (z := -n) (by omega)
    rw [cond_true, Int.neg_neg] at this
    exact qaP (natural_Of_ev (by omega) (by omega)) (qaP this (qa3 _))
  · refine ev_f (by simpa using hn) ?_
    rw [Int.emod_eq_of_lt (by omega) (by omega)]
    exact qaP (natural_Of_ev (by omega) (by omega)) (qaP (qgT false (z := n) (by omega)) (qa3 _))
theorem qnN {a : qaB} (h : Dig a.Abs) (hs : a.Abs.length ≤ 34359738368) : Ev (fun K => qg7 K a) (mkI (ival a).natAbs) := by
  refine qaS ?_
  simp only [qg7, qk3]
  have := ql9 false h hs
  rw [cond_false, qsT a h] at this
  exact qaP this (qa3 _)
theorem integer_Neg_ev {a : qaB} (h : Dig a.Abs) (hs : a.Abs.length ≤ 34359738368) : Ev (fun K => integer_Neg K a) (mkI (-ival a)) := by
  refine qaS ?_
  simp only [integer_Neg, qkY]
  have := ql9 (!a.Neg) h hs
  refine qaP (qe5 this ?_) (qa3 _)
  congr 1
  unfold ival
  cases a.Neg <;> simp
theorem integer_Normal_ev {a : qaB} (h : Dig a.Abs) (hs : a.Abs.length ≤ 34359738368) : Ev (fun K => qiP K a) (mkI (ival a)) := by
  refine qaS ?_
  simp only [qiP, qhP]
  exact qaP (ql9 a.Neg h hs) (qa3 _)
theorem qr8 {a b : qaB} (ha : Dig a.Abs) (hb : Dig b.Abs) (hs : a.Abs.length + b.Abs.length ≤ 34359738368) : Ev (fun K => qdI K a b) (mkI (ival a * ival b)) := by
  refine qaS ?_
  simp only [qdI, qkZ]
  refine qaP (natural_Mul_ev ha hb hs) ?_
  refine qaP (qe5 (qgT _ (Int.mul_nonneg (qbB ha) (qbB hb))) ?_) (qa3 _)
  congr 1
  unfold ival
  cases a.Neg <;> cases b.Neg <;> simp [Int.neg_mul, Int.mul_neg]
theorem qjK {a : qaB} (ha : Dig a.Abs) (hs : a.Abs.length < 4611686018427387904) : Ev (fun K => qiJ K a) (cmpI (ival a) 0) := by
  refine qaS ?_
  simp only [qiJ, qjJ]
  refine qaP (qrA ha hs) ?_
  have := qbB ha
  unfold ival cmpI
  by_cases h0 : val a.Abs = 0
  · refine ev_t (by simpa using h0) (qe5 (qa3 _) ?_)
    cases a.Neg <;> simp [h0]
  · refine ev_f (by simpa using h0) ?_
    cases a.Neg
    · refine ev_f rfl (qe5 (qa3 _) ?_)
      rw [cond_false, if_neg (by omega), if_pos (by omega)]
    · refine ev_t rfl (qe5 (qa3 _) ?_)
      rw [cond_true, if_pos (by omega)]
theorem qk1 {a b : qaB} (ha : Dig a.Abs) (hb : Dig b.Abs) (hs : a.Abs.length < 4611686018427387904) (ht : b.Abs.length < 4611686018427387904) : Ev (fun K => qiQ K a b) (cmpI (ival a) (ival b)) := by
  refine qaS ?_
  simp only [qiQ, qk0]
  refine qaP (qjK ha hs) (qaP (qjK hb ht) ?_)
  have hva := qbB ha
  have hvb := qbB hb
  have va := qsT a ha
  have vb := qsT b hb
  have h1 := qnG ha hb hs ht
  have h2 := qnG hb ha ht hs
  have c1 := qfB (ival a) 0
  have c2 := qfB (ival b) 0
  have c3 := qfB (val a.Abs) (val b.Abs)
  have c4 := qfB (val b.Abs) (val a.Abs)
  have c5 := qfB (ival a) (ival b)
  refine ev_if (fun d => qe5 (qa3 _) ?_) (fun d => ev_if (fun d2 => qe5 (qa3 _) ?_) (fun d2 => ev_if (fun d3 => qaP h2 (qe5 (qa3 _) ?_)) (fun d3 => qaP h1 (qe5 (qa3 _) ?_))))
  · have := of_decide_eq_true d; omega
  · have := of_decide_eq_false d; have := of_decide_eq_true d2; omega
  · have := of_decide_eq_false d; have := of_decide_eq_false d2; have := of_decide_eq_true d3; omega
  · have := of_decide_eq_false d; have := of_decide_eq_false d2; have := of_decide_eq_false d3; omega
theorem integer_Same_ev {a b : qaB} (ha : Dig a.Abs) (hb : Dig b.Abs) (hs : a.Abs.length < 4611686018427387904) (ht : b.Abs.length < 4611686018427387904) : Ev (fun K => qvS K a b) (decide (ival a = ival b)) := by
  refine qaS ?_
  simp only [qvS, qjL]
  refine qaP (qk1 ha hb hs ht) (qe5 (qa3 _) ?_)
  have c5 := qfB (ival a) (ival b)
  rw [decide_eq_decide]; omega
theorem qiB {a : qaB} (ha : Dig a.Abs) (hs : a.Abs.length < 4611686018427387904) : Ev (fun K => qfT K a) (decide (ival a = 0)) := by
  refine qaS ?_
  simp only [qfT, qiA]
  refine qaP (qrA ha hs) (qe5 (qa3 _) ?_)
  have := qsT a ha
  rw [decide_eq_decide]; omega
theorem cylinderlaw12_one_ev : Ev (fun K => qmZ K) (mkI 1) := by
  refine qaS ?_
  simp only [qmZ, qfZ]
  exact qaP (qqG (by decide)) (qa3 _)
theorem quP {z : Int} {n : Nat} (h0 : 0 ≤ z) (h : z < 4294967296 ^ n) : (mkI z).Abs.length ≤ n := mkI_len (by have := qfA n; omega) h
theorem qq1 {b4 : qaB} {p : Int} {k : Nat} (hp : 0 ≤ p ∧ p < 4294967296) (hk : k < 1000) : ∀ (m i : Nat), i + m = k → Ev (fun K => qb7 K (.c1 b4 (mkI (p ^ i)) p k i)) (mkI (p ^ k))
  | 0, i, hi => by
    refine qaS ?_
    simp only [qb7]
    have : i = k := by omega
    subst this
    exact ev_f (by simp) (qa3 _)
  | m + 1, i, hi => by
    refine qaS ?_
    simp only [qb7]
    refine ev_t (by simp; omega) ?_
    rw [qdN (x := p) (by omega), qdN (by omega), show (i : Int) + 1 = ((i + 1 : Nat) : Int) by omega]
    have hpp : p ^ i < 4294967296 ^ (i + 1) := by
      have h1 : p ^ i ≤ 4294967296 ^ i := ipow_le hp.1 (by omega) i
      have h2 := qfA i
      rw [Int.pow_succ]; omega
    have := qr8 (qjH (p ^ i)) (qjH p) (by
      have h1 := quP (show 0 ≤ p ^ i from Int.pow_nonneg hp.1) hpp
      have h2 := quP hp.1 (n := 1) (by omega)
      omega)
    rw [qd5, qd5, ← Int.pow_succ] at this
    exact qaP (qqG (by omega)) (qaP this (qq1 hp hk m (i + 1) (by omega)))
theorem qq2 {p : Int} {k : Nat} (hp : 0 ≤ p ∧ p < 4294967296) (hk : k < 1000) : Ev (fun K => qhW K p k) (mkI (p ^ k)) := by
  refine qaS ?_
  simp only [qhW, qb7]
  have := qq1 (b4 := ⟨false, []⟩) hp hk k 0 (by omega)
  rw [Int.pow_zero] at this
  exact qaP cylinderlaw12_one_ev this
end Go.Am.X
namespace Go.Am.X
open Go.Proofs.Try (prog)
def qgV (K : Nat) (x : Int) (y : Int) (c0 : Int) : Option (Int × Int) :=
  (qgS K x y c0).bind fun x1 =>
  some (x1.1, x1.2)
theorem qnH {K : Nat} {x : Int} {y : Int} {c0 : Int} {r : (Int × Int)} (h : qgV K x y c0 = some r) : HoldsR prog 149 [vi .u32 x, vi .u32 y, .c (C.ptr 6 0)] [(6, .var [C.t (T.int .u32 c0)])] [(6, .var [C.t (T.int .u32 r.2)])] (vi .u32 r.1) := by
  refine holdsR_wk (n := 17) (by kernel_rfl) (by simp) fun cx hn H exs => ?_
  unfold qgV at h
  obtain ⟨x1, h2, h⟩ := qaH h
  have h := Option.some.inj h; subst h
  exact wk_retR (fuel := 70) [rgG [oo], rgG [oo, oo, oo, opI (.call [[0], [0], [0]] [(ti .u32 x), (ti .u32 y), (ti .u32 c0)] (TV.tup [(false, [(T.int .u32 x1.1)]), (false, [(T.int .u32 x1.2)])])), oo, oo, oo, oo, oo], rgG [oo, oo], rgG [oo, oo]]
    _
    ((6, .var [C.t (T.int .u32 x1.2)]) :: (6, .var [C.t (T.int .u32 c0)]) :: H) hn (by kernel_rfl) (aC (qgR h2) <| aN) (fun k => (dup_look _ _ _ _ k))
end Go.Am.X
namespace Go.Am.X
open Go.Proofs.Try (prog)
inductive qpV where
  | c0 (a : (List Int)) (b : (List Int))
  | c1 (carry : Int) (r25 : (List Int)) (a : (List Int)) (b : (List Int)) (t27 : (List Int)) (t28 : Int) (t29 : Int)
  | c2 (carry : Int) (r25 : (List Int)) (a : (List Int)) (i : Int)
def qcI : Nat → qpV → Option (List Int)
  | 0, _ => none
  | K + 1, .c0 a b =>
    (qb5 K a).bind fun x1 =>
    (qb5 K b).bind fun x3 =>
    bif (decide ((x1.length : Int) < (x3.length : Int))) then
      gd (0 ≤ (wI6 ((x3.length : Int) + (1 : Int))) ∧ (wI6 ((x3.length : Int) + (1 : Int))) ≤ (wI6 ((x3.length : Int) + (1 : Int))) ∧ (4 : Int) * (wI6 ((x3.length : Int) + (1 : Int))) ≤ 140737488355328) <|
      qcI K (.c1 (0 : Int) (List.replicate (wI6 ((x3.length : Int) + (1 : Int))).toNat ((0 : Int) : Int)) x3 x1 x1 (x1.length : Int) (0 : Int))
    else
      gd (0 ≤ (wI6 ((x1.length : Int) + (1 : Int))) ∧ (wI6 ((x1.length : Int) + (1 : Int))) ≤ (wI6 ((x1.length : Int) + (1 : Int))) ∧ (4 : Int) * (wI6 ((x1.length : Int) + (1 : Int))) ≤ 140737488355328) <|
      qcI K (.c1 (0 : Int) (List.replicate (wI6 ((x1.length : Int) + (1 : Int))).toNat ((0 : Int) : Int)) x1 x3 x3 (x3.length : Int) (0 : Int))
  | K + 1, .c1 carry r25 a b t27 t28 t29 =>
    bif (decide (t29 < t28)) then
      (gi t27 t29).bind fun x2 =>
      (gi a t29).bind fun x4 =>
      (qgV K x4 x2 carry).bind fun x6 =>
      (gi r25 t29).bind fun _ =>
      qcI K (.c1 x6.2 (r25.set (t29.toNat) x6.1) a b t27 t28 (wI6 (t29 + (1 : Int))))
    else
      qcI K (.c2 carry r25 a (b.length : Int))
  | K + 1, .c2 carry r25 a i =>
    bif (decide (i < (a.length : Int))) then
      (gi a i).bind fun x2 =>
      (qgV K x2 (0 : Int) carry).bind fun x4 =>
      (gi r25 i).bind fun _ =>
      qcI K (.c2 x4.2 (r25.set (i.toNat) x4.1) a (wI6 (i + (1 : Int))))
    else
      (gi r25 (a.length : Int)).bind fun _ =>
      (qb5 K (r25.set ((a.length : Int).toNat) carry)).bind fun x4 =>
      some x4
def natural_Add (K : Nat) (a : (List Int)) (b : (List Int)) : Option (List Int) := qcI K (.c0 a b)
noncomputable def qkN : Code := qbN prog 106
noncomputable def natural_Add_pos : qpV → List Fr
  | .c0 .. => [.code qkN]
  | .c1 .. => [.code (.loop (atC qkN [1,1,1,1,1,1,0,1,0,0])), .blk 0, .code (atC qkN [1,1,1,1,1,1,1])]
  | .c2 .. => [.code (.loop (atC qkN [1,1,1,1,1,1,1,0,1,0,0])), .blk 2, .code (atC qkN [1,1,1,1,1,1,1,1])]
def natural_Add_st : qpV → St
  | .c0 a b => St.init [(tl 1 a qaC), (tl 1 b qaC)]
  | .c1 carry r25 a b t27 t28 t29 => ⟨[(0, vl 1 a qaC), (1, vl 1 b qaC), (5, .c (C.row 25 0 r25.length)), (6, .c (C.ptr 6 0)), (7, .c (C.fn 149 [Cap.ptr 6 0])), (27, vl 1 t27 qaC), (28, vi .i64 t28), (29, vi .i64 t29)], [(6, .var [C.t (T.int .u32 carry)]), (25, .row 101 1 (r25.map qaC) 0)], []⟩
  | .c2 carry r25 a i => ⟨[(0, vl 1 a qaC), (5, .c (C.row 25 0 r25.length)), (6, .c (C.ptr 6 0)), (7, .c (C.fn 149 [Cap.ptr 6 0])), (10, vi .i64 i)], [(6, .var [C.t (T.int .u32 carry)]), (25, .row 101 1 (r25.map qaC) 0)], []⟩
def qtO (cx : Cx) (c : qpV) (r : (List Int)) : Prop := Wk prog cx (qcT prog 106 [[1]] (tl 1 r qaC)) (natural_Add_pos c) .normal (natural_Add_st c)
abbrev qtP (K : Nat) : Prop := ∀ c r, qcI K c = some r → ∀ cx : Cx, cx.n = 69 → qtO cx c r
theorem natural_Add_c0 {K} (ih : qtP K) {cx} (hn : cx.n = 69) {a b} {r} (h : qcI (K + 1) (.c0 a b) = some r) : qtO cx (.c0 a b) r := by
  rw [qcI] at h
  obtain ⟨x1, h2, h⟩ := qaH h
  obtain ⟨x3, h4, h⟩ := qaH h
  rcases qaK h with ⟨h5, h⟩ | ⟨h5, h⟩
  · skip
    obtain ⟨h6, h⟩ := qbE h
    exact qaU (fuel := 110) [rgG [oo], rgG [oo, opI (.call [[1]] [(tl 1 a qaC)] (tl 1 x1 qaC)), oo, opI (.call [[1]] [(tl 1 b qaC)] (tl 1 x3 qaC)), oo, oo], rgG [oo, opI (.ln (x1.length : Int)), oo, opI (.ln (x3.length : Int)), oo], .br true, rgG [oo, oo, oo, oo], rgG [oo, opI (.ln (x3.length : Int)), oo, opI (.mk (qaC (0 : Int)) ((List.replicate (wI6 ((x3.length : Int) + (1 : Int))).toNat ((0 : Int) : Int)).map qaC)), oo], rgG [oo, oo], rgG [.op .clo, oo], rgG [oo, opI (.ln (x1.length : Int)), oo], .pre [.rl 5 0 (List.replicate (wI6 ((x3.length : Int) + (1 : Int))).toNat ((0 : Int) : Int)).length, .keep [0,1,5,6,7,27,28,29] [6,25]]] _ hn (by kernel_rfl) (aC (qaR h2) <| aC (qaR h4) <| aC (qaT x1 qaC) <| aC (qaT x3 qaC) <| aC h5 <| aC (qaT x3 qaC) <| aC h6.1 <| aC h6.2.1 <| aC h6.2.2 <| aC (qf1 _ _ _ : List.replicate (wI6 ((x3.length : Int) + (1 : Int))).toNat (qaC (0 : Int)) = (List.replicate (wI6 ((x3.length : Int) + (1 : Int))).toNat ((0 : Int) : Int)).map qaC) <| aC (qaT x1 qaC) <| aC r0 <| aC (by simp : (wI6 ((x3.length : Int) + (1 : Int))).toNat = (List.replicate (wI6 ((x3.length : Int) + (1 : Int))).toNat ((0 : Int) : Int)).length) <| aN) (ih _ _ h cx hn)
  · skip
    obtain ⟨h6, h⟩ := qbE h
    exact qaU (fuel := 106) [rgG [oo], rgG [oo, opI (.call [[1]] [(tl 1 a qaC)] (tl 1 x1 qaC)), oo, opI (.call [[1]] [(tl 1 b qaC)] (tl 1 x3 qaC)), oo, oo], rgG [oo, opI (.ln (x1.length : Int)), oo, opI (.ln (x3.length : Int)), oo], .br false, rgG [oo, opI (.ln (x1.length : Int)), oo, opI (.mk (qaC (0 : Int)) ((List.replicate (wI6 ((x1.length : Int) + (1 : Int))).toNat ((0 : Int) : Int)).map qaC)), oo], rgG [oo, oo], rgG [.op .clo, oo], rgG [oo, opI (.ln (x3.length : Int)), oo], .pre [.rl 5 0 (List.replicate (wI6 ((x1.length : Int) + (1 : Int))).toNat ((0 : Int) : Int)).length, .keep [0,1,5,6,7,27,28,29] [6,25]]] _ hn (by kernel_rfl) (aC (qaR h2) <| aC (qaR h4) <| aC (qaT x1 qaC) <| aC (qaT x3 qaC) <| aC h5 <| aC (qaT x1 qaC) <| aC h6.1 <| aC h6.2.1 <| aC h6.2.2 <| aC (qf1 _ _ _ : List.replicate (wI6 ((x1.length : Int) + (1 : Int))).toNat (qaC (0 : Int)) = (List.replicate (wI6 ((x1.length : Int) + (1 : Int))).toNat ((0 : Int) : Int)).map qaC) <| aC (qaT x3 qaC) <| aC r0 <| aC (by simp : (wI6 ((x1.length : Int) + (1 : Int))).toNat = (List.replicate (wI6 ((x1.length : Int) + (1 : Int))).toNat ((0 : Int) : Int)).length) <| aN) (ih _ _ h cx hn)
theorem natural_Add_c1 {K} (ih : qtP K) {cx} (hn : cx.n = 69) {carry r25 a b t27 t28 t29} {r} (h : qcI (K + 1) (.c1 carry r25 a b t27 t28 t29) = some r) : qtO cx (.c1 carry r25 a b t27 t28 t29) r := by
  rw [qcI] at h
  rcases qaK h with ⟨h1, h⟩ | ⟨h1, h⟩
  · skip
    obtain ⟨x2, h3, h⟩ := qaH h
    obtain ⟨x4, h5, h⟩ := qaH h
    obtain ⟨x6, h7, h⟩ := qaH h
    obtain ⟨x8, h9, h⟩ := qaH h
    exact qaU (fuel := 90) [.go, rgG [oo], .br true, rgG [oo, opI (.ix (qaC x2)), oo, oo, oo], rgG [oo, oo, oo, oo, oo, opI (.ix (qaC x4)), oo, oo, .callR [6] [(6, .var [C.t (T.int .u32 x6.2)])] (vi .u32 x6.1), .op .ir, opI (.st (qaC x8) ((r25.set (t29.toNat) x6.1).map qaC))], rgG [oo, oo], .pre [.rl 5 0 (r25.set (t29.toNat) x6.1).length, .keep [0,1,5,6,7,27,28,29] [6,25]]] _ hn (by kernel_rfl) (aC h1 <| aC (qa0 h3) <| aC (qbH qaC h3) <| aC (qa0 h5) <| aC (qbH qaC h5) <| aC (qnH h7) <| aC (qa0 h9) <| aC (qcH h9 (by simp) : t29 < ((r25.length : Nat) : Int)) <| aC (qcG qaC h9 : (r25.map qaC)[(0 + t29.toNat)]? = some (qaC x8)) <| aC (qc7 _ _ x6.1 _ : (r25.map qaC).set (0 + t29.toNat) (qbY (qaC x8) 0 [(T.int .u32 x6.1)]) = (r25.set (t29.toNat) x6.1).map qaC) <| aC (Nat.zero_le _ : 0 ≤ (0 + t29.toNat)) <| aC r0 <| aC (by simp : r25.length = (r25.set (t29.toNat) x6.1).length) <| aN) (ih _ _ h cx hn)
  · skip
    exact qaU (fuel := 80) [.go, rgG [oo], .br false, rgG [oo, opI (.ln (b.length : Int)), oo], .pre [.rl 5 0 r25.length, .keep [0,5,6,7,10] [6,25]]] _ hn (by kernel_rfl) (aC h1 <| aC (qaT b qaC) <| aC r0 <| aC (lq r25) <| aN) (ih _ _ h cx hn)
theorem natural_Add_c2 {K} (ih : qtP K) {cx} (hn : cx.n = 69) {carry r25 a i} {r} (h : qcI (K + 1) (.c2 carry r25 a i) = some r) : qtO cx (.c2 carry r25 a i) r := by
  rw [qcI] at h
  rcases qaK h with ⟨h1, h⟩ | ⟨h1, h⟩
  · skip
    obtain ⟨x2, h3, h⟩ := qaH h
    obtain ⟨x4, h5, h⟩ := qaH h
    obtain ⟨x6, h7, h⟩ := qaH h
    exact qaU (fuel := 82) [.go, rgG [oo, oo, opI (.ln (a.length : Int)), oo], .br true, rgG [oo, oo, oo, oo, oo, opI (.ix (qaC x2)), oo, .callR [6] [(6, .var [C.t (T.int .u32 x4.2)])] (vi .u32 x4.1), .op .ir, opI (.st (qaC x6) ((r25.set (i.toNat) x4.1).map qaC))], rgG [oo, oo, oo], .pre [.rl 5 0 (r25.set (i.toNat) x4.1).length, .keep [0,5,6,7,10] [6,25]]] _ hn (by kernel_rfl) (aC (qaT a qaC) <| aC h1 <| aC (qa0 h3) <| aC (qbH qaC h3) <| aC (qnH h5) <| aC (qa0 h7) <| aC (qcH h7 (by simp) : i < ((r25.length : Nat) : Int)) <| aC (qcG qaC h7 : (r25.map qaC)[(0 + i.toNat)]? = some (qaC x6)) <| aC (qc7 _ _ x4.1 _ : (r25.map qaC).set (0 + i.toNat) (qbY (qaC x6) 0 [(T.int .u32 x4.1)]) = (r25.set (i.toNat) x4.1).map qaC) <| aC (Nat.zero_le _ : 0 ≤ (0 + i.toNat)) <| aC r0 <| aC (by simp : r25.length = (r25.set (i.toNat) x4.1).length) <| aN) (ih _ _ h cx hn)
  · skip
    obtain ⟨x2, h3, h⟩ := qaH h
    obtain ⟨x4, h5, h⟩ := qaH h
    have h := Option.some.inj h; subst h
    exact qaN (fuel := 86) [.go, rgG [oo, oo, opI (.ln (a.length : Int)), oo], .br false, rgG [oo, oo, opI (.ln (a.length : Int)), oo, .op .ir, opI (.st (qaC x2) ((r25.set ((a.length : Int).toNat) carry).map qaC))], rgG [oo, .snap 67 (max 0 (0 + r25.length)) ((r25.set ((a.length : Int).toNat) carry).map qaC), opI (.call [[1]] [(TV.c (T.sl 1 ((r25.set ((a.length : Int).toNat) carry).map qaC)))] (tl 1 x4 qaC)), oo]] _ hn (by kernel_rfl) (aC (qaT a qaC) <| aC h1 <| aC (qaT a qaC) <| aC (qa0 h3) <| aC (qcH h3 (by simp) : (a.length : Int) < ((r25.length : Nat) : Int)) <| aC (qcG qaC h3 : (r25.map qaC)[(0 + (a.length : Int).toNat)]? = some (qaC x2)) <| aC (qc7 _ _ carry _ : (r25.map qaC).set (0 + (a.length : Int).toNat) (qbY (qaC x2) 0 [(T.int .u32 carry)]) = (r25.set ((a.length : Int).toNat) carry).map qaC) <| aC (Nat.zero_le _ : 0 ≤ (0 + (a.length : Int).toNat)) <| aC (qbI _ _ _ (by simp) : (((r25.set ((a.length : Int).toNat) carry).map qaC).drop 0).take r25.length = (r25.set ((a.length : Int).toNat) carry).map qaC) <| aC (rfl : (max 0 (0 + r25.length)) = (max 0 (0 + r25.length))) <| aC (qaR h5) <| aN)
theorem qpU : ∀ K : Nat, qtP K
  | 0, c, r, h => by rw [qcI] at h; cases h
  | K + 1, .c0 .., r, h => fun cx hn => natural_Add_c0 (qpU K) hn h
  | K + 1, .c1 .., r, h => fun cx hn => natural_Add_c1 (qpU K) hn h
  | K + 1, .c2 .., r, h => fun cx hn => natural_Add_c2 (qpU K) hn h
theorem natural_Add_holds {K : Nat} {a : (List Int)} {b : (List Int)} {r : (List Int)} (h : natural_Add K a b = some r) : qcX prog 106 [(tl 1 a qaC), (tl 1 b qaC)] (tl 1 r qaC) :=
  qa2 [[1]] (by kernel_rfl) (by simp) fun cx hn => qpU K (.c0 a b) r h cx hn
end Go.Am.X
namespace Go.Am.X
open Go.Proofs.Try (prog)
inductive qkA where
  | c0 (x : Int) (y : Int) (borrow : Int)
def qgX : Nat → qkA → Option (Int × Int)
  | 0, _ => none
  | _ + 1, .c0 x y borrow =>
    some ((wU3 ((wU3 (x - y)) - borrow)), (qdG .u32 (bits .or .u32 (bits .and .u32 (bits .xor .u32 (if IntKind.signed .u32 then -1 else IntKind.max .u32) x) y) (bits .and .u32 (bits .xor .u32 (if IntKind.signed .u32 then -1 else IntKind.max .u32) (bits .xor .u32 x y)) (wU3 ((wU3 (x - y)) - borrow)))) (31 : Int)))
def ql7 (K : Nat) (x : Int) (y : Int) (borrow : Int) : Option (Int × Int) := qgX K (.c0 x y borrow)
noncomputable def math_bits_Sub32_body : Code := qbN prog 151
noncomputable def math_bits_Sub32_pos : qkA → List Fr
  | .c0 .. => [.code math_bits_Sub32_body]
def math_bits_Sub32_st : qkA → St
  | .c0 x y borrow => St.init [(ti .u32 x), (ti .u32 y), (ti .u32 borrow)]
def math_bits_Sub32_S (cx : Cx) (c : qkA) (r : (Int × Int)) : Prop := Wk prog cx (qcT prog 151 [[0], [0]] (TV.tup [(false, [(T.int .u32 r.1)]), (false, [(T.int .u32 r.2)])])) (math_bits_Sub32_pos c) .normal (math_bits_Sub32_st c)
abbrev math_bits_Sub32_H (K : Nat) : Prop := ∀ c r, qgX K c = some r → ∀ cx : Cx, cx.n = 25 → math_bits_Sub32_S cx c r
theorem math_bits_Sub32_c0 {K} (_ : math_bits_Sub32_H K) {cx} (hn : cx.n = 25) {x y borrow} {r} (h : qgX (K + 1) (.c0 x y borrow) = some r) : math_bits_Sub32_S cx (.c0 x y borrow) r := by
  rw [qgX] at h
  have h := Option.some.inj h; subst h
  exact qaN (fuel := 62) [rgG [oo, oo], rgG [oo, oo, oo, oo, oo, oo], rgG [oo, oo, oo, oo, oo, oo, oo, oo, oo, oo, oo, oo, oo]] _ hn (by kernel_rfl) aN
theorem quQ : ∀ K : Nat, math_bits_Sub32_H K
  | 0, c, r, h => by rw [qgX] at h; cases h
  | K + 1, .c0 .., r, h => fun cx hn => math_bits_Sub32_c0 (quQ K) hn h
theorem qsJ {K : Nat} {x : Int} {y : Int} {borrow : Int} {r : (Int × Int)} (h : ql7 K x y borrow = some r) : qcX prog 151 [(ti .u32 x), (ti .u32 y), (ti .u32 borrow)] (TV.tup [(false, [(T.int .u32 r.1)]), (false, [(T.int .u32 r.2)])]) :=
  qa2 [[0], [0]] (by kernel_rfl) (by simp) fun cx hn => quQ K (.c0 x y borrow) r h cx hn
end Go.Am.X
namespace Go.Am.X
open Go.Proofs.Try (prog)
inductive qpI where
  | c0 (a : (List Int)) (b : (List Int))
  | c1 (r21 : (List Int)) (b : (List Int)) (borrow : Int) (t22 : (List Int)) (t23 : Int) (t24 : Int)
  | c2 (r21 : (List Int)) (b : (List Int)) (borrow : Int) (t22 : (List Int)) (t23 : Int) (t24 : Int)
def qcV : Nat → qpI → Option ((List Int) × Bool)
  | 0, _ => none
  | K + 1, .c0 a b =>
    (ql2 K a b).bind fun x1 =>
    bif (decide (x1 < (0 : Int))) then
      some ([], false)
    else
      (qb5 K a).bind fun x4 =>
      (qb5 K b).bind fun x6 =>
      gd (0 ≤ (x4.length : Int) ∧ (x4.length : Int) ≤ (x4.length : Int) ∧ (4 : Int) * (x4.length : Int) ≤ 140737488355328) <|
      qcV K (.c1 (List.replicate (x4.length : Int).toNat ((0 : Int) : Int)) x6 (0 : Int) x4 (x4.length : Int) (0 : Int))
  | K + 1, .c1 r21 b borrow t22 t23 t24 =>
    bif (decide (t24 < t23)) then
      (gi t22 t24).bind fun x2 =>
      bif (decide (t24 < (b.length : Int))) then
        (gi b t24).bind fun x5 =>
        (ql7 K x2 x5 borrow).bind fun x7 =>
        (gi r21 t24).bind fun _ =>
        qcV K (.c2 (r21.set (t24.toNat) x7.1) b x7.2 t22 t23 t24)
      else
        (ql7 K x2 (0 : Int) borrow).bind fun x5 =>
        (gi r21 t24).bind fun _ =>
        qcV K (.c2 (r21.set (t24.toNat) x5.1) b x5.2 t22 t23 t24)
    else
      (qb5 K r21).bind fun x2 =>
      some (x2, true)
  | K + 1, .c2 r21 b borrow t22 t23 t24 =>
    qcV K (.c1 r21 b borrow t22 t23 (wI6 (t24 + (1 : Int))))
def quA (K : Nat) (a : (List Int)) (b : (List Int)) : Option ((List Int) × Bool) := qcV K (.c0 a b)
noncomputable def qh7 : Code := qbN prog 107
noncomputable def natural_Sub_pos : qpI → List Fr
  | .c0 .. => [.code qh7]
  | .c1 .. => [.code (.loop (atC qh7 [1,1,1,1,1,0,1,0,0])), .blk 0, .code (atC qh7 [1,1,1,1,1,1])]
  | .c2 .. => [.code (atC qh7 [1,1,1,1,1,0,1,0,0,1,1,1]), .lp (atC qh7 [1,1,1,1,1,0,1,0,0]), .blk 0, .code (atC qh7 [1,1,1,1,1,1])]
def natural_Sub_st : qpI → St
  | .c0 a b => St.init [(tl 1 a qaC), (tl 1 b qaC)]
  | .c1 r21 b borrow t22 t23 t24 => ⟨[(1, vl 1 b qaC), (6, .c (C.row 21 0 r21.length)), (7, vi .u32 borrow), (22, vl 1 t22 qaC), (23, vi .i64 t23), (24, vi .i64 t24)], [(21, .row 101 1 (r21.map qaC) 0)], []⟩
  | .c2 r21 b borrow t22 t23 t24 => ⟨[(1, vl 1 b qaC), (6, .c (C.row 21 0 r21.length)), (7, vi .u32 borrow), (22, vl 1 t22 qaC), (23, vi .i64 t23), (24, vi .i64 t24)], [(21, .row 101 1 (r21.map qaC) 0)], []⟩
def qtM (cx : Cx) (c : qpI) (r : ((List Int) × Bool)) : Prop := Wk prog cx (qcT prog 107 [[1], [0]] (TV.tup [(false, [(T.sl 1 (r.1.map qaC))]), (false, [(T.bool r.2)])])) (natural_Sub_pos c) .normal (natural_Sub_st c)
abbrev qtN (K : Nat) : Prop := ∀ c r, qcV K c = some r → ∀ cx : Cx, cx.n = 50 → qtM cx c r
theorem natural_Sub_c0 {K} (ih : qtN K) {cx} (hn : cx.n = 50) {a b} {r} (h : qcV (K + 1) (.c0 a b) = some r) : qtM cx (.c0 a b) r := by
  rw [qcV] at h
  obtain ⟨x1, h2, h⟩ := qaH h
  rcases qaK h with ⟨h3, h⟩ | ⟨h3, h⟩
  · skip
    have h := Option.some.inj h; subst h
    exact qaN (fuel := 72) [rgG [oo, oo], rgG [oo, oo, opI (.call [[1], [1]] [(tl 1 a qaC), (tl 1 b qaC)] (ti .i64 x1)), oo], .br true, rgG [oo, oo]] _ hn (by kernel_rfl) (aC (qeB h2) <| aC h3 <| aN)
  · skip
    obtain ⟨x4, h5, h⟩ := qaH h
    obtain ⟨x6, h7, h⟩ := qaH h
    obtain ⟨h8, h⟩ := qbE h
    exact qaU (fuel := 98) [rgG [oo, oo], rgG [oo, oo, opI (.call [[1], [1]] [(tl 1 a qaC), (tl 1 b qaC)] (ti .i64 x1)), oo], .br false, rgG [oo, opI (.call [[1]] [(tl 1 a qaC)] (tl 1 x4 qaC)), oo, opI (.call [[1]] [(tl 1 b qaC)] (tl 1 x6 qaC)), oo, oo], rgG [oo, opI (.ln (x4.length : Int)), opI (.mk (qaC (0 : Int)) ((List.replicate (x4.length : Int).toNat ((0 : Int) : Int)).map qaC)), oo], rgG [oo], rgG [oo, opI (.ln (x4.length : Int)), oo], .pre [.rl 6 0 (List.replicate (x4.length : Int).toNat ((0 : Int) : Int)).length, .keep [1,6,7,22,23,24] [21]]] _ hn (by kernel_rfl) (aC (qeB h2) <| aC h3 <| aC (qaR h5) <| aC (qaR h7) <| aC (qaT x4 qaC) <| aC h8.1 <| aC h8.2.1 <| aC h8.2.2 <| aC (qf1 _ _ _ : List.replicate (x4.length : Int).toNat (qaC (0 : Int)) = (List.replicate (x4.length : Int).toNat ((0 : Int) : Int)).map qaC) <| aC (qaT x4 qaC) <| aC r0 <| aC (by simp : (x4.length : Int).toNat = (List.replicate (x4.length : Int).toNat ((0 : Int) : Int)).length) <| aN) (ih _ _ h cx hn)
theorem natural_Sub_c1 {K} (ih : qtN K) {cx} (hn : cx.n = 50) {r21 b borrow t22 t23 t24} {r} (h : qcV (K + 1) (.c1 r21 b borrow t22 t23 t24) = some r) : qtM cx (.c1 r21 b borrow t22 t23 t24) r := by
  rw [qcV] at h
  rcases qaK h with ⟨h1, h⟩ | ⟨h1, h⟩
  · skip
    obtain ⟨x2, h3, h⟩ := qaH h
    rcases qaK h with ⟨h4, h⟩ | ⟨h4, h⟩
    · skip
      obtain ⟨x5, h6, h⟩ := qaH h
      obtain ⟨x7, h8, h⟩ := qaH h
      obtain ⟨x9, h10, h⟩ := qaH h
      exact qaU (fuel := 112) [.go, rgG [oo], .br true, rgG [oo, opI (.ix (qaC x2)), oo, oo, oo], rgG [oo], rgG [oo, oo, opI (.ln (b.length : Int)), oo], .br true, rgG [oo, oo, opI (.ix (qaC x5)), oo, oo], rgG [oo, oo, oo, oo, oo, opI (.call [[0], [0], [0]] [(ti .u32 x2), (ti .u32 x5), (ti .u32 borrow)] (TV.tup [(false, [(T.int .u32 x7.1)]), (false, [(T.int .u32 x7.2)])])), oo, oo, oo, .op .ir, opI (.st (qaC x9) ((r21.set (t24.toNat) x7.1).map qaC)), oo], .pre [.rl 6 0 (r21.set (t24.toNat) x7.1).length, .keep [1,6,7,22,23,24] [21]]] _ hn (by kernel_rfl) (aC h1 <| aC (qa0 h3) <| aC (qbH qaC h3) <| aC (qaT b qaC) <| aC h4 <| aC (qa0 h6) <| aC (qbH qaC h6) <| aC (qsJ h8) <| aC (qa0 h10) <| aC (qcH h10 (by simp) : t24 < ((r21.length : Nat) : Int)) <| aC (qcG qaC h10 : (r21.map qaC)[(0 + t24.toNat)]? = some (qaC x9)) <| aC (qc7 _ _ x7.1 _ : (r21.map qaC).set (0 + t24.toNat) (qbY (qaC x9) 0 [(T.int .u32 x7.1)]) = (r21.set (t24.toNat) x7.1).map qaC) <| aC (Nat.zero_le _ : 0 ≤ (0 + t24.toNat)) <| aC r0 <| aC (by simp : r21.length = (r21.set (t24.toNat) x7.1).length) <| aN) (ih _ _ h cx hn)
    · skip
      obtain ⟨x5, h6, h⟩ := qaH h
      obtain ⟨x7, h8, h⟩ := qaH h
      exact qaU (fuel := 108) [.go, rgG [oo], .br true, rgG [oo, opI (.ix (qaC x2)), oo, oo, oo], rgG [oo], rgG [oo, oo, opI (.ln (b.length : Int)), oo], .br false, rgG [oo, oo, oo, oo, oo, opI (.call [[0], [0], [0]] [(ti .u32 x2), (TV.c (T.int .u32 (0 : Int))), (ti .u32 borrow)] (TV.tup [(false, [(T.int .u32 x5.1)]), (false, [(T.int .u32 x5.2)])])), oo, oo, oo, .op .ir, opI (.st (qaC x7) ((r21.set (t24.toNat) x5.1).map qaC)), oo], .pre [.rl 6 0 (r21.set (t24.toNat) x5.1).length, .keep [1,6,7,22,23,24] [21]]] _ hn (by kernel_rfl) (aC h1 <| aC (qa0 h3) <| aC (qbH qaC h3) <| aC (qaT b qaC) <| aC h4 <| aC (qsJ h6) <| aC (qa0 h8) <| aC (qcH h8 (by simp) : t24 < ((r21.length : Nat) : Int)) <| aC (qcG qaC h8 : (r21.map qaC)[(0 + t24.toNat)]? = some (qaC x7)) <| aC (qc7 _ _ x5.1 _ : (r21.map qaC).set (0 + t24.toNat) (qbY (qaC x7) 0 [(T.int .u32 x5.1)]) = (r21.set (t24.toNat) x5.1).map qaC) <| aC (Nat.zero_le _ : 0 ≤ (0 + t24.toNat)) <| aC r0 <| aC (by simp : r21.length = (r21.set (t24.toNat) x5.1).length) <| aN) (ih _ _ h cx hn)
  · skip
    obtain ⟨x2, h3, h⟩ := qaH h
    have h := Option.some.inj h; subst h
    exact qaN (fuel := 78) [.go, rgG [oo], .br false, rgG [oo, .snap 48 (max 0 (0 + r21.length)) (r21.map qaC), opI (.call [[1]] [(tl 1 r21 qaC)] (tl 1 x2 qaC)), oo, oo]] _ hn (by kernel_rfl) (aC h1 <| aC (qbI _ _ _ (by simp) : ((r21.map qaC).drop 0).take r21.length = r21.map qaC) <| aC (rfl : (max 0 (0 + r21.length)) = (max 0 (0 + r21.length))) <| aC (qaR h3) <| aN)
theorem natural_Sub_c2 {K} (ih : qtN K) {cx} (hn : cx.n = 50) {r21 b borrow t22 t23 t24} {r} (h : qcV (K + 1) (.c2 r21 b borrow t22 t23 t24) = some r) : qtM cx (.c2 r21 b borrow t22 t23 t24) r := by
  rw [qcV] at h
  exact qaU (fuel := 44) [rgG [oo, oo], .pre [.rl 6 0 r21.length, .keep [1,6,7,22,23,24] [21]]] _ hn (by kernel_rfl) (aC r0 <| aC (lq r21) <| aN) (ih _ _ h cx hn)
theorem qpH : ∀ K : Nat, qtN K
  | 0, c, r, h => by rw [qcV] at h; cases h
  | K + 1, .c0 .., r, h => fun cx hn => natural_Sub_c0 (qpH K) hn h
  | K + 1, .c1 .., r, h => fun cx hn => natural_Sub_c1 (qpH K) hn h
  | K + 1, .c2 .., r, h => fun cx hn => natural_Sub_c2 (qpH K) hn h
theorem qq8 {K : Nat} {a : (List Int)} {b : (List Int)} {r : ((List Int) × Bool)} (h : quA K a b = some r) : qcX prog 107 [(tl 1 a qaC), (tl 1 b qaC)] (TV.tup [(false, [(T.sl 1 (r.1.map qaC))]), (false, [(T.bool r.2)])]) :=
  qa2 [[1], [0]] (by kernel_rfl) (by simp) fun cx hn => qpH K (.c0 a b) r h cx hn
end Go.Am.X
namespace Go.Am.X
open Go.Proofs.Try (prog)
inductive qpN where
  | c0 (a : (List Int)) (n : Int)
  | c1 (r28 : (List Int)) (shift : Int) (low : Int) (i : Int)
def qeA : Nat → qpN → Option (List Int)
  | 0, _ => none
  | K + 1, .c0 a n =>
    (qb5 K a).bind fun x1 =>
    bif (decide ((x1.length : Int) = (0 : Int))) then
      some []
    else
      gd (0 ≤ (wI6 ((wI6 ((wI6 (Int.tdiv (min (max n (0 : Int)) (16777216 : Int)) (32 : Int))) + (x1.length : Int))) + (1 : Int))) ∧ (wI6 ((wI6 ((wI6 (Int.tdiv (min (max n (0 : Int)) (16777216 : Int)) (32 : Int))) + (x1.length : Int))) + (1 : Int))) ≤ (wI6 ((wI6 ((wI6 (Int.tdiv (min (max n (0 : Int)) (16777216 : Int)) (32 : Int))) + (x1.length : Int))) + (1 : Int))) ∧ (4 : Int) * (wI6 ((wI6 ((wI6 (Int.tdiv (min (max n (0 : Int)) (16777216 : Int)) (32 : Int))) + (x1.length : Int))) + (1 : Int))) ≤ 140737488355328) <|
      gd (0 ≤ (wI6 (Int.tdiv (min (max n (0 : Int)) (16777216 : Int)) (32 : Int))) ∧ (wI6 (Int.tdiv (min (max n (0 : Int)) (16777216 : Int)) (32 : Int))).toNat ≤ (wI6 ((wI6 ((wI6 (Int.tdiv (min (max n (0 : Int)) (16777216 : Int)) (32 : Int))) + (x1.length : Int))) + (1 : Int))).toNat ∧ (wI6 ((wI6 ((wI6 (Int.tdiv (min (max n (0 : Int)) (16777216 : Int)) (32 : Int))) + (x1.length : Int))) + (1 : Int))).toNat ≤ (wI6 ((wI6 ((wI6 (Int.tdiv (min (max n (0 : Int)) (16777216 : Int)) (32 : Int))) + (x1.length : Int))) + (1 : Int))).toNat ∧ ((wI6 (Int.tdiv (min (max n (0 : Int)) (16777216 : Int)) (32 : Int))).toNat = 0 ∨ (wI6 (Int.tdiv (min (max n (0 : Int)) (16777216 : Int)) (32 : Int))).toNat < (wI6 ((wI6 ((wI6 (Int.tdiv (min (max n (0 : Int)) (16777216 : Int)) (32 : Int))) + (x1.length : Int))) + (1 : Int))).toNat)) <|
      gd ((0 + (wI6 (Int.tdiv (min (max n (0 : Int)) (16777216 : Int)) (32 : Int))).toNat) + ((wI6 ((wI6 ((wI6 (Int.tdiv (min (max n (0 : Int)) (16777216 : Int)) (32 : Int))) + (x1.length : Int))) + (1 : Int))).toNat - (wI6 (Int.tdiv (min (max n (0 : Int)) (16777216 : Int)) (32 : Int))).toNat) ≤ (List.replicate (wI6 ((wI6 ((wI6 (Int.tdiv (min (max n (0 : Int)) (16777216 : Int)) (32 : Int))) + (x1.length : Int))) + (1 : Int))).toNat ((0 : Int) : Int)).length) <|
      bif (decide ((0 : Int) < (Int.tmod (min (max n (0 : Int)) (16777216 : Int)) (32 : Int)))) then
        qeA K (.c1 (qd6 (List.replicate (wI6 ((wI6 ((wI6 (Int.tdiv (min (max n (0 : Int)) (16777216 : Int)) (32 : Int))) + (x1.length : Int))) + (1 : Int))).toNat ((0 : Int) : Int)) (0 + (wI6 (Int.tdiv (min (max n (0 : Int)) (16777216 : Int)) (32 : Int))).toNat) ((wI6 ((wI6 ((wI6 (Int.tdiv (min (max n (0 : Int)) (16777216 : Int)) (32 : Int))) + (x1.length : Int))) + (1 : Int))).toNat - (wI6 (Int.tdiv (min (max n (0 : Int)) (16777216 : Int)) (32 : Int))).toNat) x1) (Int.tmod (min (max n (0 : Int)) (16777216 : Int)) (32 : Int)) (0 : Int) (wI6 (Int.tdiv (min (max n (0 : Int)) (16777216 : Int)) (32 : Int))))
      else
        (qb5 K (qd6 (List.replicate (wI6 ((wI6 ((wI6 (Int.tdiv (min (max n (0 : Int)) (16777216 : Int)) (32 : Int))) + (x1.length : Int))) + (1 : Int))).toNat ((0 : Int) : Int)) (0 + (wI6 (Int.tdiv (min (max n (0 : Int)) (16777216 : Int)) (32 : Int))).toNat) ((wI6 ((wI6 ((wI6 (Int.tdiv (min (max n (0 : Int)) (16777216 : Int)) (32 : Int))) + (x1.length : Int))) + (1 : Int))).toNat - (wI6 (Int.tdiv (min (max n (0 : Int)) (16777216 : Int)) (32 : Int))).toNat) x1)).bind fun x8 =>
        some x8
  | K + 1, .c1 r28 shift low i =>
    bif (decide (i < ((r28.length : Nat) : Int))) then
      (gi r28 i).bind fun x2 =>
      gd (0 ≤ shift) <|
      (gi r28 i).bind fun _ =>
      gd (0 ≤ (wI6 ((32 : Int) - shift))) <|
      qeA K (.c1 (r28.set (i.toNat) (bits .or .u32 (qgQ .u32 x2 shift) low)) shift (qdG .u32 x2 (wI6 ((32 : Int) - shift))) (wI6 (i + (1 : Int))))
    else
      (qb5 K r28).bind fun x2 =>
      some x2
def qq9 (K : Nat) (a : (List Int)) (n : Int) : Option (List Int) := qeA K (.c0 a n)
noncomputable def qsW : Code := qbN prog 142
noncomputable def natural_Shl_pos : qpN → List Fr
  | .c0 .. => [.code qsW]
  | .c1 .. => [.code (.loop (atC qsW [1,1,1,1,1,1,1,0,1,0,1,1,0,0])), .blk 0, .code (atC qsW [1,1,1,1,1,1,1,1])]
def natural_Shl_st : qpN → St
  | .c0 a n => St.init [(tl 1 a qaC), (ti .i64 n)]
  | .c1 r28 shift low i => ⟨[(6, vi .i64 shift), (7, .c (C.row 28 0 r28.length)), (8, vi .u32 low), (9, vi .i64 i)], [(28, .row 101 1 (r28.map qaC) 0)], []⟩
def natural_Shl_S (cx : Cx) (c : qpN) (r : (List Int)) : Prop := Wk prog cx (qcT prog 142 [[1]] (tl 1 r qaC)) (natural_Shl_pos c) .normal (natural_Shl_st c)
abbrev natural_Shl_H (K : Nat) : Prop := ∀ c r, qeA K c = some r → ∀ cx : Cx, cx.n = 61 → natural_Shl_S cx c r
theorem natural_Shl_c0 {K} (ih : natural_Shl_H K) {cx} (hn : cx.n = 61) {a n} {r} (h : qeA (K + 1) (.c0 a n) = some r) : natural_Shl_S cx (.c0 a n) r := by
  rw [qeA] at h
  obtain ⟨x1, h2, h⟩ := qaH h
  rcases qaK h with ⟨h3, h⟩ | ⟨h3, h⟩
  · skip
    have h := Option.some.inj h; subst h
    exact qaN (fuel := 80) [rgG [oo], rgG [oo, opI (.call [[1]] [(tl 1 a qaC)] (tl 1 x1 qaC)), oo], rgG [oo, opI (.ln (x1.length : Int)), oo], .br true, rgG [oo]] _ hn (by kernel_rfl) (aC (qaR h2) <| aC (qaT x1 qaC) <| aC h3 <| aN)
  · skip
    obtain ⟨h4, h⟩ := qbE h
    obtain ⟨h5, h⟩ := qbE h
    obtain ⟨h6, h⟩ := qbE h
    rcases qaK h with ⟨h7, h⟩ | ⟨h7, h⟩
    · skip
      exact qaU (fuel := 136) [rgG [oo], rgG [oo, opI (.call [[1]] [(tl 1 a qaC)] (tl 1 x1 qaC)), oo], rgG [oo, opI (.ln (x1.length : Int)), oo], .br false, rgG [oo, oo, oo, oo], rgG [oo, oo, oo, oo, oo, oo], rgG [oo, oo, opI (.ln (x1.length : Int)), oo, oo, opI (.mk (qaC (0 : Int)) ((List.replicate (wI6 ((wI6 ((wI6 (Int.tdiv (min (max n (0 : Int)) (16777216 : Int)) (32 : Int))) + (x1.length : Int))) + (1 : Int))).toNat ((0 : Int) : Int)).map qaC)), oo], rgG [oo, oo, opI (.slR ((wI6 (Int.tdiv (min (max n (0 : Int)) (16777216 : Int)) (32 : Int))).toNat) ((wI6 ((wI6 ((wI6 (Int.tdiv (min (max n (0 : Int)) (16777216 : Int)) (32 : Int))) + (x1.length : Int))) + (1 : Int))).toNat) (0 + (wI6 (Int.tdiv (min (max n (0 : Int)) (16777216 : Int)) (32 : Int))).toNat) ((wI6 ((wI6 ((wI6 (Int.tdiv (min (max n (0 : Int)) (16777216 : Int)) (32 : Int))) + (x1.length : Int))) + (1 : Int))).toNat - (wI6 (Int.tdiv (min (max n (0 : Int)) (16777216 : Int)) (32 : Int))).toNat)), oo, opI (.cp (x1.map qaC) ((qd6 (List.replicate (wI6 ((wI6 ((wI6 (Int.tdiv (min (max n (0 : Int)) (16777216 : Int)) (32 : Int))) + (x1.length : Int))) + (1 : Int))).toNat ((0 : Int) : Int)) (0 + (wI6 (Int.tdiv (min (max n (0 : Int)) (16777216 : Int)) (32 : Int))).toNat) ((wI6 ((wI6 ((wI6 (Int.tdiv (min (max n (0 : Int)) (16777216 : Int)) (32 : Int))) + (x1.length : Int))) + (1 : Int))).toNat - (wI6 (Int.tdiv (min (max n (0 : Int)) (16777216 : Int)) (32 : Int))).toNat) x1).map qaC) ((min x1.length ((wI6 ((wI6 ((wI6 (Int.tdiv (min (max n (0 : Int)) (16777216 : Int)) (32 : Int))) + (x1.length : Int))) + (1 : Int))).toNat - (wI6 (Int.tdiv (min (max n (0 : Int)) (16777216 : Int)) (32 : Int))).toNat) : Nat) : Int))], rgG [oo, oo], .br true, rgG [oo], rgG [oo, oo], .pre [.rl 7 0 (qd6 (List.replicate (wI6 ((wI6 ((wI6 (Int.tdiv (min (max n (0 : Int)) (16777216 : Int)) (32 : Int))) + (x1.length : Int))) + (1 : Int))).toNat ((0 : Int) : Int)) (0 + (wI6 (Int.tdiv (min (max n (0 : Int)) (16777216 : Int)) (32 : Int))).toNat) ((wI6 ((wI6 ((wI6 (Int.tdiv (min (max n (0 : Int)) (16777216 : Int)) (32 : Int))) + (x1.length : Int))) + (1 : Int))).toNat - (wI6 (Int.tdiv (min (max n (0 : Int)) (16777216 : Int)) (32 : Int))).toNat) x1).length, .keep [6,7,8,9] [28]]] _ hn (by kernel_rfl) (aC (qaR h2) <| aC (qaT x1 qaC) <| aC h3 <| aC (qaT x1 qaC) <| aC h4.1 <| aC h4.2.1 <| aC h4.2.2 <| aC (qf1 _ _ _ : List.replicate (wI6 ((wI6 ((wI6 (Int.tdiv (min (max n (0 : Int)) (16777216 : Int)) (32 : Int))) + (x1.length : Int))) + (1 : Int))).toNat (qaC (0 : Int)) = (List.replicate (wI6 ((wI6 ((wI6 (Int.tdiv (min (max n (0 : Int)) (16777216 : Int)) (32 : Int))) + (x1.length : Int))) + (1 : Int))).toNat ((0 : Int) : Int)).map qaC) <| aC (⟨h5.1, rfl⟩ : 0 ≤ (wI6 (Int.tdiv (min (max n (0 : Int)) (16777216 : Int)) (32 : Int))) ∧ (wI6 (Int.tdiv (min (max n (0 : Int)) (16777216 : Int)) (32 : Int))).toNat = (wI6 (Int.tdiv (min (max n (0 : Int)) (16777216 : Int)) (32 : Int))).toNat) <| aC (rfl : (wI6 ((wI6 ((wI6 (Int.tdiv (min (max n (0 : Int)) (16777216 : Int)) (32 : Int))) + (x1.length : Int))) + (1 : Int))).toNat = (wI6 ((wI6 ((wI6 (Int.tdiv (min (max n (0 : Int)) (16777216 : Int)) (32 : Int))) + (x1.length : Int))) + (1 : Int))).toNat) <| aC h5.2.1 <| aC h5.2.2.1 <| aC h5.2.2.2 <| aC (rfl : 0 + (wI6 (Int.tdiv (min (max n (0 : Int)) (16777216 : Int)) (32 : Int))).toNat = (0 + (wI6 (Int.tdiv (min (max n (0 : Int)) (16777216 : Int)) (32 : Int))).toNat)) <| aC (rfl : (wI6 ((wI6 ((wI6 (Int.tdiv (min (max n (0 : Int)) (16777216 : Int)) (32 : Int))) + (x1.length : Int))) + (1 : Int))).toNat - (wI6 (Int.tdiv (min (max n (0 : Int)) (16777216 : Int)) (32 : Int))).toNat = ((wI6 ((wI6 ((wI6 (Int.tdiv (min (max n (0 : Int)) (16777216 : Int)) (32 : Int))) + (x1.length : Int))) + (1 : Int))).toNat - (wI6 (Int.tdiv (min (max n (0 : Int)) (16777216 : Int)) (32 : Int))).toNat)) <| aC (rfl : x1.map qaC = x1.map qaC) <| aC (qrU _ _ _ _ _ h6 : qbY ((List.replicate (wI6 ((wI6 ((wI6 (Int.tdiv (min (max n (0 : Int)) (16777216 : Int)) (32 : Int))) + (x1.length : Int))) + (1 : Int))).toNat ((0 : Int) : Int)).map qaC) (0 + (wI6 (Int.tdiv (min (max n (0 : Int)) (16777216 : Int)) (32 : Int))).toNat) ((x1.map qaC).take (min (x1.map qaC).length ((wI6 ((wI6 ((wI6 (Int.tdiv (min (max n (0 : Int)) (16777216 : Int)) (32 : Int))) + (x1.length : Int))) + (1 : Int))).toNat - (wI6 (Int.tdiv (min (max n (0 : Int)) (16777216 : Int)) (32 : Int))).toNat))) = (qd6 (List.replicate (wI6 ((wI6 ((wI6 (Int.tdiv (min (max n (0 : Int)) (16777216 : Int)) (32 : Int))) + (x1.length : Int))) + (1 : Int))).toNat ((0 : Int) : Int)) (0 + (wI6 (Int.tdiv (min (max n (0 : Int)) (16777216 : Int)) (32 : Int))).toNat) ((wI6 ((wI6 ((wI6 (Int.tdiv (min (max n (0 : Int)) (16777216 : Int)) (32 : Int))) + (x1.length : Int))) + (1 : Int))).toNat - (wI6 (Int.tdiv (min (max n (0 : Int)) (16777216 : Int)) (32 : Int))).toNat) x1).map qaC) <| aC (by rw [qc4] : ((min (x1.map qaC).length ((wI6 ((wI6 ((wI6 (Int.tdiv (min (max n (0 : Int)) (16777216 : Int)) (32 : Int))) + (x1.length : Int))) + (1 : Int))).toNat - (wI6 (Int.tdiv (min (max n (0 : Int)) (16777216 : Int)) (32 : Int))).toNat) : Nat) : Int) = ((min x1.length ((wI6 ((wI6 ((wI6 (Int.tdiv (min (max n (0 : Int)) (16777216 : Int)) (32 : Int))) + (x1.length : Int))) + (1 : Int))).toNat - (wI6 (Int.tdiv (min (max n (0 : Int)) (16777216 : Int)) (32 : Int))).toNat) : Nat) : Int)) <| aC h7 <| aC r0 <| aC (by simp : (wI6 ((wI6 ((wI6 (Int.tdiv (min (max n (0 : Int)) (16777216 : Int)) (32 : Int))) + (x1.length : Int))) + (1 : Int))).toNat = (qd6 (List.replicate (wI6 ((wI6 ((wI6 (Int.tdiv (min (max n (0 : Int)) (16777216 : Int)) (32 : Int))) + (x1.length : Int))) + (1 : Int))).toNat ((0 : Int) : Int)) (0 + (wI6 (Int.tdiv (min (max n (0 : Int)) (16777216 : Int)) (32 : Int))).toNat) ((wI6 ((wI6 ((wI6 (Int.tdiv (min (max n (0 : Int)) (16777216 : Int)) (32 : Int))) + (x1.length : Int))) + (1 : Int))).toNat - (wI6 (Int.tdiv (min (max n (0 : Int)) (16777216 : Int)) (32 : Int))).toNat) x1).length) <| aN) (ih _ _ h cx hn)
    · skip
      obtain ⟨x8, h9, h⟩ := qaH h
      have h := Option.some.inj h; subst h
      exact qaN (fuel := 130) [rgG [oo], rgG [oo, opI (.call [[1]] [(tl 1 a qaC)] (tl 1 x1 qaC)), oo], rgG [oo, opI (.ln (x1.length : Int)), oo], .br false, rgG [oo, oo, oo, oo], rgG [oo, oo, oo, oo, oo, oo], rgG [oo, oo, opI (.ln (x1.length : Int)), oo, oo, opI (.mk (qaC (0 : Int)) ((List.replicate (wI6 ((wI6 ((wI6 (Int.tdiv (min (max n (0 : Int)) (16777216 : Int)) (32 : Int))) + (x1.length : Int))) + (1 : Int))).toNat ((0 : Int) : Int)).map qaC)), oo], rgG [oo, oo, opI (.slR ((wI6 (Int.tdiv (min (max n (0 : Int)) (16777216 : Int)) (32 : Int))).toNat) ((wI6 ((wI6 ((wI6 (Int.tdiv (min (max n (0 : Int)) (16777216 : Int)) (32 : Int))) + (x1.length : Int))) + (1 : Int))).toNat) (0 + (wI6 (Int.tdiv (min (max n (0 : Int)) (16777216 : Int)) (32 : Int))).toNat) ((wI6 ((wI6 ((wI6 (Int.tdiv (min (max n (0 : Int)) (16777216 : Int)) (32 : Int))) + (x1.length : Int))) + (1 : Int))).toNat - (wI6 (Int.tdiv (min (max n (0 : Int)) (16777216 : Int)) (32 : Int))).toNat)), oo, opI (.cp (x1.map qaC) ((qd6 (List.replicate (wI6 ((wI6 ((wI6 (Int.tdiv (min (max n (0 : Int)) (16777216 : Int)) (32 : Int))) + (x1.length : Int))) + (1 : Int))).toNat ((0 : Int) : Int)) (0 + (wI6 (Int.tdiv (min (max n (0 : Int)) (16777216 : Int)) (32 : Int))).toNat) ((wI6 ((wI6 ((wI6 (Int.tdiv (min (max n (0 : Int)) (16777216 : Int)) (32 : Int))) + (x1.length : Int))) + (1 : Int))).toNat - (wI6 (Int.tdiv (min (max n (0 : Int)) (16777216 : Int)) (32 : Int))).toNat) x1).map qaC) ((min x1.length ((wI6 ((wI6 ((wI6 (Int.tdiv (min (max n (0 : Int)) (16777216 : Int)) (32 : Int))) + (x1.length : Int))) + (1 : Int))).toNat - (wI6 (Int.tdiv (min (max n (0 : Int)) (16777216 : Int)) (32 : Int))).toNat) : Nat) : Int))], rgG [oo, oo], .br false, rgG [oo, .snap 59 (max 0 (0 + (wI6 ((wI6 ((wI6 (Int.tdiv (min (max n (0 : Int)) (16777216 : Int)) (32 : Int))) + (x1.length : Int))) + (1 : Int))).toNat)) ((qd6 (List.replicate (wI6 ((wI6 ((wI6 (Int.tdiv (min (max n (0 : Int)) (16777216 : Int)) (32 : Int))) + (x1.length : Int))) + (1 : Int))).toNat ((0 : Int) : Int)) (0 + (wI6 (Int.tdiv (min (max n (0 : Int)) (16777216 : Int)) (32 : Int))).toNat) ((wI6 ((wI6 ((wI6 (Int.tdiv (min (max n (0 : Int)) (16777216 : Int)) (32 : Int))) + (x1.length : Int))) + (1 : Int))).toNat - (wI6 (Int.tdiv (min (max n (0 : Int)) (16777216 : Int)) (32 : Int))).toNat) x1).map qaC), opI (.call [[1]] [(TV.c (T.sl 1 ((qd6 (List.replicate (wI6 ((wI6 ((wI6 (Int.tdiv (min (max n (0 : Int)) (16777216 : Int)) (32 : Int))) + (x1.length : Int))) + (1 : Int))).toNat ((0 : Int) : Int)) (0 + (wI6 (Int.tdiv (min (max n (0 : Int)) (16777216 : Int)) (32 : Int))).toNat) ((wI6 ((wI6 ((wI6 (Int.tdiv (min (max n (0 : Int)) (16777216 : Int)) (32 : Int))) + (x1.length : Int))) + (1 : Int))).toNat - (wI6 (Int.tdiv (min (max n (0 : Int)) (16777216 : Int)) (32 : Int))).toNat) x1).map qaC)))] (tl 1 x8 qaC)), oo]] _ hn (by kernel_rfl) (aC (qaR h2) <| aC (qaT x1 qaC) <| aC h3 <| aC (qaT x1 qaC) <| aC h4.1 <| aC h4.2.1 <| aC h4.2.2 <| aC (qf1 _ _ _ : List.replicate (wI6 ((wI6 ((wI6 (Int.tdiv (min (max n (0 : Int)) (16777216 : Int)) (32 : Int))) + (x1.length : Int))) + (1 : Int))).toNat (qaC (0 : Int)) = (List.replicate (wI6 ((wI6 ((wI6 (Int.tdiv (min (max n (0 : Int)) (16777216 : Int)) (32 : Int))) + (x1.length : Int))) + (1 : Int))).toNat ((0 : Int) : Int)).map qaC) <| aC (⟨h5.1, rfl⟩ : 0 ≤ (wI6 (Int.tdiv (min (max n (0 : Int)) (16777216 : Int)) (32 : Int))) ∧ (wI6 (Int.tdiv (min (max n (0 : Int)) (16777216 : Int)) (32 : Int))).toNat = (wI6 (Int.tdiv (min (max n (0 : Int)) (16777216 : Int)) (32 : Int))).toNat) <| aC (rfl : (wI6 ((wI6 ((wI6 (Int.tdiv (min (max n (0 : Int)) (16777216 : Int)) (32 : Int))) + (x1.length : Int))) + (1 : Int))).toNat = (wI6 ((wI6 ((wI6 (Int.tdiv (min (max n (0 : Int)) (16777216 : Int)) (32 : Int))) + (x1.length : Int))) + (1 : Int))).toNat) <| aC h5.2.1 <| aC h5.2.2.1 <| aC h5.2.2.2 <| aC (rfl : 0 + (wI6 (Int.tdiv (min (max n (0 : Int)) (16777216 : Int)) (32 : Int))).toNat = (0 + (wI6 (Int.tdiv (min (max n (0 : Int)) (16777216 : Int)) (32 : Int))).toNat)) <| aC (rfl : (wI6 ((wI6 ((wI6 (Int.tdiv (min (max n (0 : Int)) (16777216 : Int)) (32 : Int))) + (x1.length : Int))) + (1 : Int))).toNat - (wI6 (Int.tdiv (min (max n (0 : Int)) (16777216 : Int)) (32 : Int))).toNat = ((wI6 ((wI6 ((wI6 (Int.tdiv (min (max n (0 : Int)) (16777216 : Int)) (32 : Int))) + (x1.length : Int))) + (1 : Int))).toNat - (wI6 (Int.tdiv (min (max n (0 : Int)) (16777216 : Int)) (32 : Int))).toNat)) <| aC (rfl : x1.map qaC = x1.map qaC) <| aC (qrU _ _ _ _ _ h6 : qbY ((List.replicate (wI6 ((wI6 ((wI6 (Int.tdiv (min (max n (0 : Int)) (16777216 : Int)) (32 : Int))) + (x1.length : Int))) + (1 : Int))).toNat ((0 : Int) : Int)).map qaC) (0 + (wI6 (Int.tdiv (min (max n (0 : Int)) (16777216 : Int)) (32 : Int))).toNat) ((x1.map qaC).take (min (x1.map qaC).length ((wI6 ((wI6 ((wI6 (Int.tdiv (min (max n (0 : Int)) (16777216 : Int)) (32 : Int))) + (x1.length : Int))) + (1 : Int))).toNat - (wI6 (Int.tdiv (min (max n (0 : Int)) (16777216 : Int)) (32 : Int))).toNat))) = (qd6 (List.replicate (wI6 ((wI6 ((wI6 (Int.tdiv (min (max n (0 : Int)) (16777216 : Int)) (32 : Int))) + (x1.length : Int))) + (1 : Int))).toNat ((0 : Int) : Int)) (0 + (wI6 (Int.tdiv (min (max n (0 : Int)) (16777216 : Int)) (32 : Int))).toNat) ((wI6 ((wI6 ((wI6 (Int.tdiv (min (max n (0 : Int)) (16777216 : Int)) (32 : Int))) + (x1.length : Int))) + (1 : Int))).toNat - (wI6 (Int.tdiv (min (max n (0 : Int)) (16777216 : Int)) (32 : Int))).toNat) x1).map qaC) <| aC (by rw [qc4] : ((min (x1.map qaC).length ((wI6 ((wI6 ((wI6 (Int.tdiv (min (max n (0 : Int)) (16777216 : Int)) (32 : Int))) + (x1.length : Int))) + (1 : Int))).toNat - (wI6 (Int.tdiv (min (max n (0 : Int)) (16777216 : Int)) (32 : Int))).toNat) : Nat) : Int) = ((min x1.length ((wI6 ((wI6 ((wI6 (Int.tdiv (min (max n (0 : Int)) (16777216 : Int)) (32 : Int))) + (x1.length : Int))) + (1 : Int))).toNat - (wI6 (Int.tdiv (min (max n (0 : Int)) (16777216 : Int)) (32 : Int))).toNat) : Nat) : Int)) <| aC h7 <| aC (qbI _ _ _ (by simp) : (((qd6 (List.replicate (wI6 ((wI6 ((wI6 (Int.tdiv (min (max n (0 : Int)) (16777216 : Int)) (32 : Int))) + (x1.length : Int))) + (1 : Int))).toNat ((0 : Int) : Int)) (0 + (wI6 (Int.tdiv (min (max n (0 : Int)) (16777216 : Int)) (32 : Int))).toNat) ((wI6 ((wI6 ((wI6 (Int.tdiv (min (max n (0 : Int)) (16777216 : Int)) (32 : Int))) + (x1.length : Int))) + (1 : Int))).toNat - (wI6 (Int.tdiv (min (max n (0 : Int)) (16777216 : Int)) (32 : Int))).toNat) x1).map qaC).drop 0).take ((wI6 ((wI6 ((wI6 (Int.tdiv (min (max n (0 : Int)) (16777216 : Int)) (32 : Int))) + (x1.length : Int))) + (1 : Int))).toNat) = (qd6 (List.replicate (wI6 ((wI6 ((wI6 (Int.tdiv (min (max n (0 : Int)) (16777216 : Int)) (32 : Int))) + (x1.length : Int))) + (1 : Int))).toNat ((0 : Int) : Int)) (0 + (wI6 (Int.tdiv (min (max n (0 : Int)) (16777216 : Int)) (32 : Int))).toNat) ((wI6 ((wI6 ((wI6 (Int.tdiv (min (max n (0 : Int)) (16777216 : Int)) (32 : Int))) + (x1.length : Int))) + (1 : Int))).toNat - (wI6 (Int.tdiv (min (max n (0 : Int)) (16777216 : Int)) (32 : Int))).toNat) x1).map qaC) <| aC (rfl : (max 0 (0 + (wI6 ((wI6 ((wI6 (Int.tdiv (min (max n (0 : Int)) (16777216 : Int)) (32 : Int))) + (x1.length : Int))) + (1 : Int))).toNat)) = (max 0 (0 + (wI6 ((wI6 ((wI6 (Int.tdiv (min (max n (0 : Int)) (16777216 : Int)) (32 : Int))) + (x1.length : Int))) + (1 : Int))).toNat))) <| aC (qaR h9) <| aN)
theorem natural_Shl_c1 {K} (ih : natural_Shl_H K) {cx} (hn : cx.n = 61) {r28 shift low i} {r} (h : qeA (K + 1) (.c1 r28 shift low i) = some r) : natural_Shl_S cx (.c1 r28 shift low i) r := by
  rw [qeA] at h
  rcases qaK h with ⟨h1, h⟩ | ⟨h1, h⟩
  · skip
    obtain ⟨x2, h3, h⟩ := qaH h
    obtain ⟨h4, h⟩ := qbE h
    obtain ⟨x5, h6, h⟩ := qaH h
    obtain ⟨h7, h⟩ := qbE h
    exact qaU (fuel := 98) [.go, rgG [oo, oo, oo, oo], .br true, rgG [oo, oo, .op .ir, opI (.ld (qaC x2)), oo], rgG [oo, oo, oo, oo, .op .dv, oo, oo, .op .ir, opI (.st (qaC x5) ((r28.set (i.toNat) (bits .or .u32 (qgQ .u32 x2 shift) low)).map qaC))], rgG [oo, oo, oo, .op .dv, oo], rgG [oo, oo, oo], .pre [.rl 7 0 (r28.set (i.toNat) (bits .or .u32 (qgQ .u32 x2 shift) low)).length, .keep [6,7,8,9] [28]]] _ hn (by kernel_rfl) (aC h1 <| aC (qa0 h3) <| aC (qcH h3 (by simp) : i < ((r28.length : Nat) : Int)) <| aC (qcG qaC h3 : (r28.map qaC)[(0 + i.toNat)]? = some (qaC x2)) <| aC h4 <| aC (qa0 h6) <| aC (qcH h6 (by simp) : i < ((r28.length : Nat) : Int)) <| aC (qcG qaC h6 : (r28.map qaC)[(0 + i.toNat)]? = some (qaC x5)) <| aC (qc7 _ _ (bits .or .u32 (qgQ .u32 x2 shift) low) _ : (r28.map qaC).set (0 + i.toNat) (qbY (qaC x5) 0 [(T.int .u32 (bits .or .u32 (qgQ .u32 x2 shift) low))]) = (r28.set (i.toNat) (bits .or .u32 (qgQ .u32 x2 shift) low)).map qaC) <| aC (Nat.zero_le _ : 0 ≤ (0 + i.toNat)) <| aC h7 <| aC r0 <| aC (by simp : r28.length = (r28.set (i.toNat) (bits .or .u32 (qgQ .u32 x2 shift) low)).length) <| aN) (ih _ _ h cx hn)
  · skip
    obtain ⟨x2, h3, h⟩ := qaH h
    have h := Option.some.inj h; subst h
    exact qaN (fuel := 78) [.go, rgG [oo, oo, oo, oo], .br false, rgG [oo, .snap 59 (max 0 (0 + r28.length)) (r28.map qaC), opI (.call [[1]] [(tl 1 r28 qaC)] (tl 1 x2 qaC)), oo]] _ hn (by kernel_rfl) (aC h1 <| aC (qbI _ _ _ (by simp) : ((r28.map qaC).drop 0).take r28.length = r28.map qaC) <| aC (rfl : (max 0 (0 + r28.length)) = (max 0 (0 + r28.length))) <| aC (qaR h3) <| aN)
theorem quC : ∀ K : Nat, natural_Shl_H K
  | 0, c, r, h => by rw [qeA] at h; cases h
  | K + 1, .c0 .., r, h => fun cx hn => natural_Shl_c0 (quC K) hn h
  | K + 1, .c1 .., r, h => fun cx hn => natural_Shl_c1 (quC K) hn h
theorem qi8 {K : Nat} {a : (List Int)} {n : Int} {r : (List Int)} (h : qq9 K a n = some r) : qcX prog 142 [(tl 1 a qaC), (ti .i64 n)] (tl 1 r qaC) :=
  qa2 [[1]] (by kernel_rfl) (by simp) fun cx hn => quC K (.c0 a n) r h cx hn
end Go.Am.X
namespace Go.Am.X
open Go.Proofs.Try (prog)
inductive qqK where
  | c0 (a : qaB) (b : qaB)
def qk2 : Nat → qqK → Option qaB
  | 0, _ => none
  | K + 1, .c0 a b =>
    bif (a.Neg == b.Neg) then
      (natural_Add K a.Abs b.Abs).bind fun x2 =>
      (qgU K a.Neg x2).bind fun x4 =>
      some x4
    else
      (quA K a.Abs b.Abs).bind fun x2 =>
      bif x2.2 then
        (qgU K a.Neg x2.1).bind fun x5 =>
        some x5
      else
        (quA K b.Abs a.Abs).bind fun x5 =>
        (qgU K b.Neg x5.1).bind fun x7 =>
        some x7
def qg6 (K : Nat) (a : qaB) (b : qaB) : Option qaB := qk2 K (.c0 a b)
noncomputable def integer_Add_body : Code := qbN prog 54
noncomputable def integer_Add_pos : qqK → List Fr
  | .c0 .. => [.code integer_Add_body]
def integer_Add_st : qqK → St
  | .c0 a b => St.init [(TV.agg (qaA a)), (TV.agg (qaA b))]
def integer_Add_S (cx : Cx) (c : qqK) (r : qaB) : Prop := Wk prog cx (qcT prog 54 [[0,1]] (TV.agg (qaA r))) (integer_Add_pos c) .normal (integer_Add_st c)
abbrev integer_Add_H (K : Nat) : Prop := ∀ c r, qk2 K c = some r → ∀ cx : Cx, cx.n = 47 → integer_Add_S cx c r
theorem integer_Add_c0 {K} (_ : integer_Add_H K) {cx} (hn : cx.n = 47) {a b} {r} (h : qk2 (K + 1) (.c0 a b) = some r) : integer_Add_S cx (.c0 a b) r := by
  rw [qk2] at h
  rcases qaK h with ⟨h1, h⟩ | ⟨h1, h⟩
  · skip
    obtain ⟨x2, h3, h⟩ := qaH h
    obtain ⟨x4, h5, h⟩ := qaH h
    have h := Option.some.inj h; subst h
    exact qaN (fuel := 72) [rgG [oo, oo, oo], rgG [oo, oo, oo, oo, oo], .br true, .draw [.p, .p, .p, .p, .p, .p, (.call [[1], [1]] [(TV.c (T.sl 1 (a.Abs.map qaC))), (TV.c (T.sl 1 (b.Abs.map qaC)))] (tl 1 x2 qaC))] [opI (.call [[0], [1]] [(TV.c (T.bool a.Neg)), (tl 1 x2 qaC)] (TV.agg (qaA x4))), .op .p]] _ hn (by kernel_rfl) (aC h1 <| aC (natural_Add_holds h3) <| aC (qe8 h5) <| aN)
  · skip
    obtain ⟨x2, h3, h⟩ := qaH h
    rcases qaK h with ⟨h4, h⟩ | ⟨h4, h⟩
    · skip
      obtain ⟨x5, h6, h⟩ := qaH h
      have h := Option.some.inj h; subst h
      exact qaN (fuel := 98) [rgG [oo, oo, oo], rgG [oo, oo, oo, oo, oo], .br false, rgG [oo, oo, oo, oo, opI (.call [[1], [1]] [(TV.c (T.sl 1 (a.Abs.map qaC))), (TV.c (T.sl 1 (b.Abs.map qaC)))] (TV.tup [(false, [(T.sl 1 (x2.1.map qaC))]), (false, [(T.bool x2.2)])])), oo, oo, oo, oo, oo], rgG [oo], .br true, rgG [oo, oo, oo, opI (.call [[0], [1]] [(TV.c (T.bool a.Neg)), (tl 1 x2.1 qaC)] (TV.agg (qaA x5))), oo]] _ hn (by kernel_rfl) (aC h1 <| aC (qq8 h3) <| aC h4 <| aC (qe8 h6) <| aN)
    · skip
      obtain ⟨x5, h6, h⟩ := qaH h
      obtain ⟨x7, h8, h⟩ := qaH h
      have h := Option.some.inj h; subst h
      exact qaN (fuel := 106) [rgG [oo, oo, oo], rgG [oo, oo, oo, oo, oo], .br false, rgG [oo, oo, oo, oo, opI (.call [[1], [1]] [(TV.c (T.sl 1 (a.Abs.map qaC))), (TV.c (T.sl 1 (b.Abs.map qaC)))] (TV.tup [(false, [(T.sl 1 (x2.1.map qaC))]), (false, [(T.bool x2.2)])])), oo, oo, oo, oo, oo], rgG [oo], .br false, rgG [oo, oo, oo, oo, opI (.call [[1], [1]] [(TV.c (T.sl 1 (b.Abs.map qaC))), (TV.c (T.sl 1 (a.Abs.map qaC)))] (TV.tup [(false, [(T.sl 1 (x5.1.map qaC))]), (false, [(T.bool x5.2)])])), oo, oo, oo, oo, oo], rgG [oo, oo, oo, opI (.call [[0], [1]] [(TV.c (T.bool b.Neg)), (tl 1 x5.1 qaC)] (TV.agg (qaA x7))), oo]] _ hn (by kernel_rfl) (aC h1 <| aC (qq8 h3) <| aC h4 <| aC (qq8 h6) <| aC (qe8 h8) <| aN)
theorem integer_Add_all : ∀ K : Nat, integer_Add_H K
  | 0, c, r, h => by rw [qk2] at h; cases h
  | K + 1, .c0 .., r, h => fun cx hn => integer_Add_c0 (integer_Add_all K) hn h
theorem qeH {K : Nat} {a : qaB} {b : qaB} {r : qaB} (h : qg6 K a b = some r) : qcX prog 54 [(TV.agg (qaA a)), (TV.agg (qaA b))] (TV.agg (qaA r)) :=
  qa2 [[0,1]] (by kernel_rfl) (by simp) fun cx hn => integer_Add_all K (.c0 a b) r h cx hn
end Go.Am.X
namespace Go.Am.X
open Go.Proofs.Try (prog)
inductive qqF where
  | c0 (a : qaB) (n : Int)
def qkX : Nat → qqF → Option qaB
  | 0, _ => none
  | K + 1, .c0 a n =>
    (qq9 K a.Abs n).bind fun x1 =>
    (qgU K a.Neg x1).bind fun x3 =>
    some x3
def integer_Shl (K : Nat) (a : qaB) (n : Int) : Option qaB := qkX K (.c0 a n)
noncomputable def integer_Shl_body : Code := qbN prog 103
noncomputable def integer_Shl_pos : qqF → List Fr
  | .c0 .. => [.code integer_Shl_body]
def integer_Shl_st : qqF → St
  | .c0 a n => St.init [(TV.agg (qaA a)), (ti .i64 n)]
def integer_Shl_S (cx : Cx) (c : qqF) (r : qaB) : Prop := Wk prog cx (qcT prog 103 [[0,1]] (TV.agg (qaA r))) (integer_Shl_pos c) .normal (integer_Shl_st c)
abbrev integer_Shl_H (K : Nat) : Prop := ∀ c r, qkX K c = some r → ∀ cx : Cx, cx.n = 12 → integer_Shl_S cx c r
theorem integer_Shl_c0 {K} (_ : integer_Shl_H K) {cx} (hn : cx.n = 12) {a n} {r} (h : qkX (K + 1) (.c0 a n) = some r) : integer_Shl_S cx (.c0 a n) r := by
  rw [qkX] at h
  obtain ⟨x1, h2, h⟩ := qaH h
  obtain ⟨x3, h4, h⟩ := qaH h
  have h := Option.some.inj h; subst h
  exact qaN (fuel := 54) [rgG [oo, oo], .draw [.p, .p, .p, .p, .p, (.call [[1], [0]] [(TV.c (T.sl 1 (a.Abs.map qaC))), (ti .i64 n)] (tl 1 x1 qaC))] [opI (.call [[0], [1]] [(TV.c (T.bool a.Neg)), (tl 1 x1 qaC)] (TV.agg (qaA x3))), .op .p]] _ hn (by kernel_rfl) (aC (qi8 h2) <| aC (qe8 h4) <| aN)
theorem integer_Shl_all : ∀ K : Nat, integer_Shl_H K
  | 0, c, r, h => by rw [qkX] at h; cases h
  | K + 1, .c0 .., r, h => fun cx hn => integer_Shl_c0 (integer_Shl_all K) hn h
theorem integer_Shl_holds {K : Nat} {a : qaB} {n : Int} {r : qaB} (h : integer_Shl K a n = some r) : qcX prog 103 [(TV.agg (qaA a)), (ti .i64 n)] (TV.agg (qaA r)) :=
  qa2 [[0,1]] (by kernel_rfl) (by simp) fun cx hn => integer_Shl_all K (.c0 a n) r h cx hn
end Go.Am.X
namespace Go.Am.X
theorem qdO {a : List Int} {i : Nat} (h : i < a.length) : val (a.take (i + 1)) = val (a.take i) + 4294967296 ^ i * a[i] := by
  rw [List.take_add_one, List.getElem?_eq_getElem h, Option.toList_some, qi2, List.length_take, Nat.min_eq_left (by omega)]
  simp
theorem natural_Add_1_ev {x y c : Int} (hx : 0 ≤ x ∧ x < 4294967296) (hy : 0 ≤ y ∧ y < 4294967296) (hc : 0 ≤ c ∧ c < 4294967296) : Ev (fun K => qgV K x y c) ((x + y + c) % 4294967296, (x + y + c) / 4294967296) := by
  unfold qgV
  exact qaP (qlQ hx hy hc) (qa3 _)
theorem natural_Add_v2 {a b : List Int} (ha : Dig a) (hs : a.length < 4611686018427387900) : ∀ (m i : Nat) (c : Int) (r : List Int), i + m = a.length → b.length ≤ i → (c = 0 ∨ c = 1) → Dig r → r.length = a.length + 1 →
    val r + 4294967296 ^ i * c = val (a.take i) + val b → (∀ j, i ≤ j → j < r.length → r[j]? = some 0) → Ev (fun K => qcI K (.c2 c r a i)) (digs (val a + val b))
  | 0, i, c, r, hi, hb, hc, hr, hl, hv, hz => by
    refine qaS ?_
    simp only [qcI]
    refine ev_f (by simp; omega) (qb6 (qc0 (by omega)) ?_)
    have hia : a.length = i := by omega
    have h1 := qbX (qnD hr a.length (x := c) (by omega)) (by simp; omega)
    have h2 := hz a.length (by omega) (by omega)
    rw [List.getElem?_eq_getElem (by omega)] at h2
    rw [qoL (by omega), Option.some.inj h2, Int.sub_zero, hia, hv, List.take_of_length_le (Nat.le_of_eq hia)] at h1
    rw [Int.toNat_natCast, hia]
    exact qaP h1 (qa3 _)
  | m + 1, i, c, r, hi, hb, hc, hr, hl, hv, hz => by
    refine qaS ?_
    simp only [qcI]
    have hia : i < a.length := by omega
    have hx := qfE ha hia
    refine ev_t (by simp; omega) (qb6 (qc0 hia) (qaP (natural_Add_1_ev hx (by decide) (by omega)) (qb6 (qc0 (by omega)) ?_)))
    simp only [Int.add_zero]
    rw [Int.toNat_natCast, qdN (by omega), show (i : Int) + 1 = ((i + 1 : Nat) : Int) by omega]
    refine natural_Add_v2 ha hs m (i + 1) _ _ (by omega) (by omega) (by omega) (qnD hr i (by omega)) (by simpa using hl) ?_ (fun j hj hjl => ?_)
    · have h2 := hz i (by omega) (by omega)
      rw [List.getElem?_eq_getElem (by omega)] at h2
      rw [qoL (by omega), Option.some.inj h2, qdO hia, Int.pow_succ]
      have e := Int.emod_add_mul_ediv (a[i] + c) 4294967296
      generalize (a[i] + c) % 4294967296 = p at *
      generalize (a[i] + c) / 4294967296 = q at *
      generalize (4294967296 : Int) ^ i = A at *
      grind
    · rw [List.getElem?_set_ne (by omega)]; exact hz j (by omega) (by simpa using hjl)
theorem natural_Add_v1 {a b : List Int} (ha : Dig a) (hb : Dig b) (hab : b.length ≤ a.length) (hs : a.length < 4611686018427387900) : ∀ (m i : Nat) (c : Int) (r : List Int), i + m = b.length → (c = 0 ∨ c = 1) → Dig r → r.length = a.length + 1 →
    val r + 4294967296 ^ i * c = val (a.take i) + val (b.take i) → (∀ j, i ≤ j → j < r.length → r[j]? = some 0) → Ev (fun K => qcI K (.c1 c r a b b b.length i)) (digs (val a + val b))
  | 0, i, c, r, hi, hc, hr, hl, hv, hz => by
    refine qaS ?_
    simp only [qcI]
    refine ev_f (by simp; omega) ?_
    rw [List.take_of_length_le (l := b) (by omega)] at hv
    have hbi : b.length = i := by omega
    rw [hbi]
    exact natural_Add_v2 ha hs (a.length - i) i c r (by omega) (by omega) hc hr hl hv hz
  | m + 1, i, c, r, hi, hc, hr, hl, hv, hz => by
    refine qaS ?_
    simp only [qcI]
    have hib : i < b.length := by omega
    have hia : i < a.length := by omega
    have hx := qfE ha hia
    have hy := qfE hb hib
    refine ev_t (by simp; omega) (qb6 (qc0 hib) (qb6 (qc0 hia) (qaP (natural_Add_1_ev hx hy (by omega)) (qb6 (qc0 (by omega)) ?_))))
    simp only
    rw [Int.toNat_natCast, qdN (by omega), show (i : Int) + 1 = ((i + 1 : Nat) : Int) by omega]
    refine natural_Add_v1 ha hb hab hs m (i + 1) _ _ (by omega) (by omega) (qnD hr i (by omega)) (by simpa using hl) ?_ (fun j hj hjl => ?_)
    · have h2 := hz i (by omega) (by omega)
      rw [List.getElem?_eq_getElem (by omega)] at h2
      rw [qoL (by omega), Option.some.inj h2, qdO hia, qdO hib, Int.pow_succ]
      have e := Int.emod_add_mul_ediv (a[i] + b[i] + c) 4294967296
      generalize (a[i] + b[i] + c) % 4294967296 = p at *
      generalize (a[i] + b[i] + c) / 4294967296 = q at *
      generalize (4294967296 : Int) ^ i = A at *
      grind
    · rw [List.getElem?_set_ne (by omega)]; exact hz j (by omega) (by simpa using hjl)
theorem natural_Add_ev {a b : List Int} (ha : Dig a) (hb : Dig b) (hs : a.length ≤ 34359738360) (ht : b.length ≤ 34359738360) : Ev (fun K => natural_Add K a b) (digs (val a + val b)) := by
  refine qaS ?_
  simp only [natural_Add, qcI]
  have va := qe6 (qbB ha)
  have vb := qe6 (qbB hb)
  have la := qd4 ha
  have lb := qd4 hb
  refine qaP (qbX ha (by omega)) (qaP (qbX hb (by omega)) (ev_if (fun h => ?_) (fun h => ?_)))
  · have h := of_decide_eq_true h
    rw [qdN (by omega)]
    refine qjP (by omega) ?_
    have := natural_Add_v1 (qdT (val b)) (qdT (val a)) (by omega) (by omega) _ 0 0 (List.replicate ((digs (val b)).length + 1) 0) (Nat.zero_add _) (.inl rfl) (dig_rep (by decide)) (by simp) (by rw [val_rep]; simp) (fun j _ hj => by rw [List.getElem?_replicate, if_pos (by simpa using hj)])
    rw [va, vb, Int.add_comm] at this
    rw [show (((digs (val b)).length : Int) + 1).toNat = (digs (val b)).length + 1 by omega]
    exact this
  · have h := of_decide_eq_false h
    rw [qdN (by omega)]
    refine qjP (by omega) ?_
    have := natural_Add_v1 (qdT (val a)) (qdT (val b)) (by omega) (by omega) _ 0 0 (List.replicate ((digs (val a)).length + 1) 0) (Nat.zero_add _) (.inl rfl) (dig_rep (by decide)) (by simp) (by rw [val_rep]; simp) (fun j _ hj => by rw [List.getElem?_replicate, if_pos (by simpa using hj)])
    rw [va, vb] at this
    rw [show (((digs (val a)).length : Int) + 1).toNat = (digs (val a)).length + 1 by omega]
    exact this
def wd (x : Int) : BitVec 32 := BitVec.ofInt 32 x
theorem wd_nat {x : Int} (h : 0 ≤ x ∧ x < 4294967296) : (wd x).toNat = x.toNat := by
  unfold wd; rw [BitVec.toNat_ofInt]; omega
theorem u32_bv (v : BitVec 32) : wU3 (v.toNat : Int) = v.toNat := by
  rw [w_u32]; have := v.isLt; omega
theorem bits_or {x y : Int} : bits .or .u32 x y = ((wd x ||| wd y).toNat : Int) := u32_bv _
theorem bits_and {x y : Int} : bits .and .u32 x y = ((wd x &&& wd y).toNat : Int) := u32_bv _
theorem bits_xor {x y : Int} : bits .xor .u32 x y = ((wd x ^^^ wd y).toNat : Int) := u32_bv _
theorem wd_toNat (v : BitVec 32) : wd (v.toNat : Int) = v := by
  apply BitVec.eq_of_toNat_eq
  rw [wd_nat ⟨by omega, by have := v.isLt; omega⟩]; omega
theorem bits_or_add {x y : Int} {s : Nat} (hx : 0 ≤ x ∧ x < 4294967296) (hd : x % 2 ^ s = 0) (hy : 0 ≤ y ∧ y < 2 ^ s) (hs : s < 32) : bits .or .u32 x y = x + y := by
  have hp : (2 : Int) ^ s ≤ 2 ^ 31 := by
    have : (2 : Nat) ^ s ≤ 2 ^ 31 := Nat.pow_le_pow_right (by decide) (by omega)
    exact_mod_cast this
  rw [bits_or, BitVec.toNat_or, wd_nat hx, wd_nat (by omega)]
  have h1 : (x.toNat : Int) = x := by omega
  have h2 : (y.toNat : Int) = y := by omega
  have h3 : x.toNat = 2 ^ s * (x.toNat / 2 ^ s) := by
    have h4 : x.toNat % 2 ^ s = 0 := by
      have : ((x.toNat % 2 ^ s : Nat) : Int) = 0 := by rw [Int.natCast_emod, h1]; simpa using hd
      exact_mod_cast this
    have := Nat.div_add_mod x.toNat (2 ^ s)
    omega
  have h5 : y.toNat < 2 ^ s := by
    have : ((y.toNat : Nat) : Int) < ((2 ^ s : Nat) : Int) := by rw [h2]; simpa using hy.2
    exact_mod_cast this
  rw [h3, ← Nat.two_pow_add_eq_or_of_lt h5]
  rw [← h3]; omega
theorem top_bit (v : BitVec 32) : ((v.toNat : Int) / 2147483648) = if v.msb then 1 else 0 := by
  rw [BitVec.msb_eq_decide]
  have := v.isLt
  by_cases h : 2 ^ (32 - 1) ≤ v.toNat
  · simp only [h, decide_true, if_true]; omega
  · simp only [h, decide_false]; simp; omega
theorem wd_msb {x : Int} (h : 0 ≤ x ∧ x < 4294967296) : (wd x).msb = decide (2147483648 ≤ x) := by
  rw [BitVec.msb_eq_decide, wd_nat h, decide_eq_decide]; omega
theorem qvQ {x y b : Int} (hx : 0 ≤ x ∧ x < 4294967296) (hy : 0 ≤ y ∧ y < 4294967296) (hb : b = 0 ∨ b = 1) :
    Ev (fun K => ql7 K x y b) ((x - y - b) % 4294967296, if x - y - b < 0 then 1 else 0) := by
  refine qaS ?_
  simp only [ql7, qgX, w_u32]
  rw [show ((x - y) % 4294967296 - b) % 4294967296 = (x - y - b) % 4294967296 by omega]
  refine qe5 (qa3 _) ?_
  congr 1
  have hd : 0 ≤ (x - y - b) % 4294967296 ∧ (x - y - b) % 4294967296 < 4294967296 := by omega
  generalize hdd : (x - y - b) % 4294967296 = d at *
  rw [bits_or, bits_and, bits_and, bits_xor, bits_xor, bits_xor, wd_toNat, wd_toNat, wd_toNat, wd_toNat, wd_toNat, shr_le (by decide) (by decide)]
  show _ / 2147483648 = _
  rw [top_bit]
  have hall : ∀ v : BitVec 32, wd (if IntKind.signed .u32 then -1 else IntKind.max .u32) ^^^ v = ~~~v := by
    intro v
    have : wd (if IntKind.signed .u32 then -1 else IntKind.max .u32) = BitVec.allOnes 32 := by decide
    rw [this, BitVec.allOnes_xor]
  simp only [hall, BitVec.msb_or, BitVec.msb_and, BitVec.msb_not, BitVec.msb_xor, wd_msb hx, wd_msb hy, wd_msb hd]
  by_cases h1 : 2147483648 ≤ x <;> by_cases h2 : 2147483648 ≤ y <;> by_cases h3 : 2147483648 ≤ d <;> simp [h1, h2, h3] <;> omega
theorem natural_Sub_v1 {a b : List Int} (ha : Dig a) (hb : Dig b) (hba : val b ≤ val a) (hs : a.length < 4611686018427387904) (hlb : b.length ≤ a.length) : ∀ (m i : Nat) (c : Int) (r : List Int), i + m = a.length → (c = 0 ∨ c = 1) → Dig r → r.length = a.length →
    val r - 4294967296 ^ i * c = val (a.take i) - val (b.take i) → (∀ j, i ≤ j → j < r.length → r[j]? = some 0) → Ev (fun K => qcV K (.c1 r b c a a.length i)) (digs (val a - val b), true)
  | 0, i, c, r, hi, hc, hr, hl, hv, hz => by
    refine qaS ?_
    simp only [qcV]
    refine ev_f (by simp; omega) ?_
    have h1 := qbX hr (by omega)
    rw [List.take_of_length_le (by omega), List.take_of_length_le (by omega)] at hv
    have h2 := qjV hr
    rw [hl, show a.length = i by omega] at h2
    have hc0 : c = 0 := by
      rcases hc with h | h
      · exact h
      · subst h; omega
    subst hc0
    rw [Int.mul_zero, Int.sub_zero] at hv
    rw [hv] at h1
    exact qaP h1 (qa3 _)
  | m + 1, i, c, r, hi, hc, hr, hl, hv, hz => by
    refine qaS ?_
    simp only [qcV]
    have hia : i < a.length := by omega
    have hx := qfE ha hia
    refine ev_t (by simp; omega) (qb6 (qc0 hia) ?_)
    have next : ∀ y : Int, 0 ≤ y ∧ y < 4294967296 → val (b.take (i + 1)) = val (b.take i) + 4294967296 ^ i * y →
        Ev (fun K => qcV K (.c2 (r.set i ((a[i] - y - c) % 4294967296)) b (if a[i] - y - c < 0 then 1 else 0) a a.length i)) (digs (val a - val b), true) := by
      intro y hy he
      refine qaS ?_
      simp only [qcV]
      rw [qdN (by omega), show (i : Int) + 1 = ((i + 1 : Nat) : Int) by omega]
      refine natural_Sub_v1 ha hb hba hs hlb m (i + 1) _ _ (by omega) (by split <;> omega) (qnD hr i (by omega)) (by simpa using hl) ?_ (fun j hj hjl => ?_)
      · have h2 := hz i (by omega) (by omega)
        rw [List.getElem?_eq_getElem (by omega)] at h2
        rw [qoL (by omega), Option.some.inj h2, qdO hia, he, Int.pow_succ]
        have e : (a[i] - y - c) % 4294967296 - 4294967296 * (if a[i] - y - c < 0 then 1 else 0) = a[i] - y - c := by split <;> omega
        generalize (a[i] - y - c) % 4294967296 = p at *
        generalize (if a[i] - y - c < 0 then (1 : Int) else 0) = q at *
        generalize (4294967296 : Int) ^ i = A at *
        grind
      · rw [List.getElem?_set_ne (by omega)]; exact hz j (by omega) (by simpa using hjl)
    by_cases hib : i < b.length
    · refine ev_t (by simpa using hib) (qb6 (qc0 hib) (qaP (qvQ hx (qfE hb hib) hc) (qb6 (qc0 (by omega)) ?_)))
      rw [Int.toNat_natCast]
      exact next _ (qfE hb hib) (qdO hib)
    · refine ev_f (by simpa using hib) (qaP (qvQ hx (by decide) hc) (qb6 (qc0 (by omega)) ?_))
      rw [Int.toNat_natCast]
      exact next 0 (by decide) (by rw [List.take_of_length_le (by omega), List.take_of_length_le (by omega)]; simp)
theorem natural_Sub_ev {a b : List Int} (ha : Dig a) (hb : Dig b) (hs : a.length ≤ 34359738360) (ht : b.length ≤ 34359738360) : Ev (fun K => quA K a b) (if val a < val b then ([], false) else (digs (val a - val b), true)) := by
  refine qaS ?_
  simp only [quA, qcV]
  have va := qe6 (qbB ha)
  have vb := qe6 (qbB hb)
  have la := qd4 ha
  have lb := qd4 hb
  have hc := qfB (val a) (val b)
  refine qaP (qnG ha hb (by omega) (by omega)) ?_
  by_cases h : val a < val b
  · rw [if_pos h]
    exact ev_t (by simp; omega) (qa3 _)
  · rw [if_neg h]
    refine ev_f (by simp; omega) (qaP (qbX ha (by omega)) (qaP (qbX hb (by omega)) (qjP (by omega) ?_)))
    have hlb : (digs (val b)).length ≤ (digs (val a)).length := by
      apply Nat.le_of_not_lt; intro hlt
      have := val_lt_of_len (qv2 (val a)) (qv2 (val b)) hlt
      omega
    have := natural_Sub_v1 (qdT (val a)) (qdT (val b)) (by omega) (by omega) hlb _ 0 0 (List.replicate (digs (val a)).length 0) (Nat.zero_add _) (.inl rfl) (dig_rep (by decide)) (by simp) (by rw [val_rep]; simp) (fun j _ hj => by rw [List.getElem?_replicate, if_pos (by simpa using hj)])
    rw [va, vb] at this
    rw [Int.toNat_natCast]
    exact this
theorem qnM {a b : qaB} (ha : Dig a.Abs) (hb : Dig b.Abs) (hs : a.Abs.length ≤ 34359738360) (ht : b.Abs.length ≤ 34359738360) : Ev (fun K => qg6 K a b) (mkI (ival a + ival b)) := by
  refine qaS ?_
  simp only [qg6, qk2]
  have na := qbB ha
  have nb := qbB hb
  obtain ⟨s, a⟩ := a
  obtain ⟨t, b⟩ := b
  simp only at ha hb hs ht na nb ⊢
  unfold ival
  by_cases h : s = t
  · subst h
    refine ev_t (by simp) (qaP (natural_Add_ev ha hb hs ht) (qaP (qe5 (qgT s (by omega)) ?_) (qa3 _)))
    congr 1; cases s <;> simp; omega
  · refine ev_f (by simpa using h) (qaP (natural_Sub_ev ha hb hs ht) ?_)
    have e : s = !t := by cases s <;> cases t <;> simp at h ⊢
    by_cases hlt : val a < val b
    · simp only [if_pos hlt]
      have := natural_Sub_ev hb ha ht hs
      rw [if_neg (by omega)] at this
      refine ev_f rfl (qaP this (qaP (qe5 (qgT t (by omega)) ?_) (qa3 _)))
      congr 1; subst e; cases t <;> simp <;> omega
    · simp only [if_neg hlt]
      refine ev_t rfl (qaP (qe5 (qgT s (by omega)) ?_) (qa3 _))
      congr 1; subst e; cases t <;> simp <;> omega
theorem shl_digit {x l : Int} {s : Nat} (hx : 0 ≤ x ∧ x < 4294967296) (hl : 0 ≤ l ∧ l < 2 ^ s) (hs : s < 32) :
    ∃ d q : Int, bits .or .u32 (qgQ .u32 x s) l = d ∧ qdG .u32 x (32 - s) = q ∧ (0 ≤ d ∧ d < 4294967296) ∧ (0 ≤ q ∧ q < 2 ^ s) ∧ d + 4294967296 * q = x * 2 ^ s + l := by
  rw [shl_le (by omega) (by show (s : Int) ≤ 32; omega), shr_le (by omega) (by show (32 : Int) - s ≤ 32; omega), w_u32k, Int.toNat_natCast, show ((32 : Int) - s).toNat = 32 - s by omega]
  have hP : (0 : Int) < 2 ^ s := Int.pow_pos (by decide)
  have hQ : (0 : Int) < 2 ^ (32 - s) := Int.pow_pos (by decide)
  have hPQ : (2 : Int) ^ (32 - s) * 2 ^ s = 4294967296 := by rw [← Int.pow_add, show 32 - s + s = 32 by omega]; rfl
  have hmul : x * 2 ^ s % 4294967296 = x % 2 ^ (32 - s) * 2 ^ s := by rw [← hPQ, Int.mul_comm x, Int.mul_comm (2 ^ (32 - s)), Int.mul_emod_mul_of_pos _ _ hP, Int.mul_comm]
  have hm1 : 0 ≤ x % 2 ^ (32 - s) := Int.emod_nonneg _ (by omega)
  have hm2 : x % 2 ^ (32 - s) < 2 ^ (32 - s) := Int.emod_lt_of_pos _ hQ
  have hd1 : x % 2 ^ (32 - s) * 2 ^ s + 2 ^ s ≤ 4294967296 := by
    have := Int.mul_le_mul_of_nonneg_right (show x % 2 ^ (32 - s) + 1 ≤ 2 ^ (32 - s) by omega) (Int.le_of_lt hP)
    rw [hPQ, Int.add_mul, Int.one_mul] at this; exact this
  have hd0 : 0 ≤ x % 2 ^ (32 - s) * 2 ^ s := Int.mul_nonneg hm1 (Int.le_of_lt hP)
  rw [hmul, bits_or_add (s := s) ⟨hd0, by omega⟩ (Int.mul_emod_left _ _) hl hs]
  have hdiv := Int.emod_add_mul_ediv x (2 ^ (32 - s))
  refine ⟨_, _, rfl, rfl, ⟨by omega, by omega⟩, ⟨Int.ediv_nonneg hx.1 (by omega), ?_⟩, ?_⟩
  · exact Int.ediv_lt_of_lt_mul hQ (by rw [Int.mul_comm, hPQ]; exact hx.2)
  · rw [← hPQ]
    generalize x / 2 ^ (32 - s) = q at *
    generalize x % 2 ^ (32 - s) = r at *
    generalize (2 : Int) ^ s = P at *
    generalize (2 : Int) ^ (32 - s) = Q at *
    rw [← hdiv]
    grind
theorem natural_Shl_v1 {r0 : List Int} (h0 : Dig r0) {s : Nat} (hs1 : 0 < s) (hs : s < 32) (hl : r0.length < 4611686018427387904) (hlast : val r0 * 2 ^ s < 4294967296 ^ r0.length) : ∀ (m i : Nat) (l : Int) (r : List Int), i + m = r0.length → (0 ≤ l ∧ l < 2 ^ s) → Dig r → r.length = r0.length →
    val r + 4294967296 ^ i * l = 2 ^ s * val (r0.take i) + 4294967296 ^ i * val (r0.drop i) → (∀ j, i ≤ j → r[j]? = r0[j]?) → Ev (fun K => qeA K (.c1 r s l i)) (digs (val r0 * 2 ^ s))
  | 0, i, l, r, hi, hlo, hr, hrl, hv, hz => by
    refine qaS ?_
    simp only [qeA]
    refine ev_f (by simp; omega) ?_
    have h1 := qbX hr (by omega)
    rw [List.take_of_length_le (by omega), List.drop_of_length_le (by omega), val_nil, Int.mul_zero, Int.add_zero, Int.mul_comm (2 ^ s)] at hv
    have hp := qfA i
    have hn := qbB hr
    rw [show r0.length = i by omega] at hlast
    have hl0 : l = 0 := by
      apply Classical.byContradiction; intro hne
      have := Int.mul_le_mul_of_nonneg_left (show 1 ≤ l by omega) (Int.le_of_lt hp)
      omega
    subst hl0
    rw [Int.mul_zero, Int.add_zero] at hv
    rw [hv] at h1
    exact qaP h1 (qa3 _)
  | m + 1, i, l, r, hi, hlo, hr, hrl, hv, hz => by
    refine qaS ?_
    simp only [qeA]
    have hir : i < r.length := by omega
    have hi0 : i < r0.length := by omega
    have hx := qfE hr hir
    obtain ⟨d, q, e1, e2, hd, hq, e3⟩ := shl_digit hx hlo hs
    refine ev_t (by simp; omega) (qb6 (qc0 hir) (qjP (by omega) (qb6 (qc0 hir) (qjP (by rw [qdN (by omega)]; omega) ?_))))
    rw [qdN (x := (32 : Int) - s) (by omega), e1, e2, Int.toNat_natCast, qdN (by omega), show (i : Int) + 1 = ((i + 1 : Nat) : Int) by omega]
    refine natural_Shl_v1 h0 hs1 hs hl hlast m (i + 1) q _ (by omega) hq (qnD hr i hd) (by simpa using hrl) ?_ (fun j hj => ?_)
    · have e4 : r[i] = r0[i] := by
        have := hz i (Nat.le_refl _)
        rw [List.getElem?_eq_getElem hir, List.getElem?_eq_getElem hi0] at this
        exact Option.some.inj this
      rw [qoL hir, qdO hi0, Int.pow_succ]
      rw [List.drop_eq_getElem_cons hi0, qnS] at hv
      rw [e4] at e3 ⊢
      generalize (4294967296 : Int) ^ i = A at *
      generalize (2 : Int) ^ s = P at *
      grind
    · rw [List.getElem?_set_ne (by omega)]; exact hz j (by omega)
theorem pow2_32 (n : Nat) : (2 : Int) ^ n = 2 ^ (n % 32) * 4294967296 ^ (n / 32) := by
  have e : (4294967296 : Int) = 2 ^ 32 := by decide
  rw [e, ← Int.pow_mul, ← Int.pow_add]
  congr 1; omega
theorem natural_Shl_ev {a : List Int} (ha : Dig a) {n : Nat} (hn : n ≤ 16777216) (hs : a.length ≤ 34359738360 - 524288) : Ev (fun K => qq9 K a n) (digs (val a * 2 ^ n)) := by
  refine qaS ?_
  simp only [qq9, qeA]
  have va := qe6 (qbB ha)
  have la := qd4 ha
  refine qaP (qbX ha (by omega)) ?_
  by_cases h1 : digs (val a) = []
  · refine ev_t (by simp [h1]) (qe5 (qa3 _) ?_)
    rw [(qjY (qbB ha)).1 h1, Int.zero_mul, qfV]
  · refine ev_f (by simpa using h1) ?_
    have e0 : min (max (n : Int) 0) 16777216 = n := by omega
    have e1 : wI6 (Int.tdiv (n : Int) 32) = ((n / 32 : Nat) : Int) := by
      rw [Int.tdiv_eq_ediv_of_nonneg (by omega), qdN (by omega)]; omega
    have e2 : Int.tmod (n : Int) 32 = ((n % 32 : Nat) : Int) := by
      rw [Int.tmod_eq_emod_of_nonneg (by omega)]; omega
    rw [e0, e1, e2, qdN (x := ((n / 32 : Nat) : Int) + ((digs (val a)).length : Int)) (by omega), qdN (by omega),
      show ((n / 32 : Nat) : Int) + ((digs (val a)).length : Int) + 1 = ((n / 32 + (digs (val a)).length + 1 : Nat) : Int) by omega]
    simp only [Int.toNat_natCast, List.length_replicate, Nat.zero_add]
    refine qjP (by omega) (qjP (by omega) (qjP (by omega) ?_))
    have hcp : qd6 (List.replicate (n / 32 + (digs (val a)).length + 1) (0 : Int)) (n / 32) (n / 32 + (digs (val a)).length + 1 - n / 32) (digs (val a)) = List.replicate (n / 32) 0 ++ digs (val a) ++ [0] := by
      unfold qd6
      rw [if_pos (by simp; omega), List.take_of_length_le (by omega)]
      unfold qbY
      rw [List.take_replicate, List.drop_replicate, Nat.min_eq_left (by omega), show n / 32 + (digs (val a)).length + 1 - (n / 32 + (digs (val a)).length) = 1 by omega]
      rfl
    rw [hcp]
    have hd : Dig (List.replicate (n / 32) 0 ++ digs (val a) ++ [0]) := dig_append.2 ⟨dig_append.2 ⟨dig_rep (by decide), qdT _⟩, qi1.2 ⟨by decide, dig_nil⟩⟩
    have hv : val (List.replicate (n / 32) 0 ++ digs (val a) ++ [0]) = val a * 4294967296 ^ (n / 32) := by
      rw [qi2, qi2, val_rep, va]; simp [Int.mul_comm]
    have hl : (List.replicate (n / 32) 0 ++ digs (val a) ++ [0]).length = n / 32 + (digs (val a)).length + 1 := by simp; omega
    have hp : val a * 4294967296 ^ (n / 32) * 2 ^ (n % 32) = val a * 2 ^ n := by rw [pow2_32 n, Int.mul_assoc]; congr 1; rw [Int.mul_comm]
    by_cases h2 : n % 32 = 0
    · refine ev_f (by simp [h2]) ?_
      have := qbX hd (by omega)
      rw [hv] at this
      rw [h2, Int.pow_zero, Int.mul_one] at hp
      rw [hp] at this
      exact qaP this (qa3 _)
    · refine ev_t (by simp; omega) ?_
      have hlast : val (List.replicate (n / 32) 0 ++ digs (val a) ++ [0]) * 2 ^ (n % 32) < 4294967296 ^ (List.replicate (n / 32) 0 ++ digs (val a) ++ [0]).length := by
        rw [hv, hl, Int.pow_succ, Int.pow_add]
        have h3 := qjV (qdT (val a))
        rw [va] at h3
        have h4 : (2 : Int) ^ (n % 32) < 4294967296 := by
          have : (2 : Nat) ^ (n % 32) ≤ 2 ^ 31 := Nat.pow_le_pow_right (by decide) (by omega)
          have : ((2 ^ (n % 32) : Nat) : Int) ≤ ((2 ^ 31 : Nat) : Int) := by exact_mod_cast this
          simp at this; omega
        have h5 := qfA (n / 32)
        have h6 : (0 : Int) < 2 ^ (n % 32) := Int.pow_pos (by decide)
        have h7 := Int.mul_lt_mul_of_pos_left h3 h5
        have h8 := qbB ha
        have h9 : 0 ≤ val a * 4294967296 ^ (n / 32) := Int.mul_nonneg h8 (Int.le_of_lt h5)
        calc val a * 4294967296 ^ (n / 32) * 2 ^ (n % 32) ≤ val a * 4294967296 ^ (n / 32) * 4294967296 := Int.mul_le_mul_of_nonneg_left (Int.le_of_lt h4) h9
          _ < 4294967296 ^ (n / 32) * 4294967296 ^ (digs (val a)).length * 4294967296 := Int.mul_lt_mul_of_pos_right (by rw [Int.mul_comm (val a)]; exact h7) (by decide)
      have hlen : n / 32 + ((digs (val a)).length + 1) = (List.replicate (n / 32) 0 ++ digs (val a) ++ [0]).length := by rw [hl]; omega
      have := natural_Shl_v1 hd (s := n % 32) (by omega) (by omega) (by omega) hlast _ (n / 32) 0 _ hlen ⟨Int.le_refl 0, Int.pow_pos (by decide)⟩ hd rfl (by
        rw [Int.mul_zero, Int.add_zero, List.append_assoc, List.take_left' (by simp), List.drop_left' (by simp), val_rep, Int.mul_zero, Int.zero_add, qi2, val_rep]
        simp) (fun _ _ => rfl)
      rw [hv, hp] at this
      exact this
theorem integer_Shl_ev {a : qaB} (ha : Dig a.Abs) {n : Nat} (hn : n ≤ 16777216) (hs : a.Abs.length ≤ 34359738360 - 524288) : Ev (fun K => integer_Shl K a n) (mkI (ival a * 2 ^ n)) := by
  refine qaS ?_
  simp only [integer_Shl, qkX]
  refine qaP (natural_Shl_ev ha hn hs) (qaP (qe5 (qgT _ (Int.mul_nonneg (qbB ha) (Int.le_of_lt (Int.pow_pos (by decide))))) ?_) (qa3 _))
  congr 1
  unfold ival
  cases a.Neg <;> simp [Int.neg_mul]
end Go.Am.X
