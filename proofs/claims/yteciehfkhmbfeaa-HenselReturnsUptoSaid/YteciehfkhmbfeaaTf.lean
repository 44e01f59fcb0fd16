/- HenselReturns: the statement of the second form, for every input of at most so many values. -/
import Derived.Test.YteciehfkhmbfeaaTe
import Derived.Test.YteciehfkhmbfeaaTb
import Derived.Test.YteciehfkhmbfeaaTc
import Derived.Test.YteciehfkhmbfeaaTd
import Derived.OpenShut
import Derived.Deep.Slices
import Derived.Test.YteciehfkhmbfeaaTa
import Derived.WalkKit
import Derived.ProofKit
import Derived.JoinedCond
import Derived.Test.YteciehfkhmbfeaaRows
namespace Go.Am.X
theorem zq6 {p : Int} (hp : Pr p) {h : List Int} (hc : Cn p h) (hl : h.length < 100000) (h0 : 0 < h.length) (h1 : co h (h.length - 1) = 1) : Ev (fun K => qsE K h p) (h, 0) := by
  have hr := hp.range
  obtain ⟨j, j1, j2, j3, j4⟩ := qgP hp (a := 1) (by omega)
  have hj : j = 1 := by rw [Int.one_mul, Int.emod_eq_of_lt j2 j3] at j4; exact j4
  subst hj
  have hm : Ev (fun K => qj1 K h p) h := by
    refine qaJ ?_
    simp only [qj1, qg1]
    have hg : gi h (wI6 ((h.length : Int) - 1)) = some 1 := by
      rw [qbR (by omega), show (h.length : Int) - 1 = ((h.length - 1 : Nat) : Int) by omega, qbN (by omega), ← qdP (by omega), h1]
    have hs := qmC (c := 1) hr (qkG hr.2 hc) (by decide) (by omega)
    have e : h.map (· * 1) = h := by simp
    rw [e, q3U hc] at hs
    exact ev_f (by simp only [decide_eq_false_iff_not]; omega) (qa3 hg (qaG j1 (qaG hs (qaT _))))
  refine qaJ ?_
  simp only [qsE, qjV]
  exact qaG (qtY hp) (ev_f rfl (qaG (qwS hp hc (by omega)) (qaG hm (qaT _))))
theorem Fs.top {p : Int} {G H : List (List Int)} (h : Fs p G H) {i : Nat} (hj : i < H.length) : co H[i] (H[i].length - 1) = 1 := by
  have hr := h.hs.pr.range
  have hi : i < G.length := by rw [h.len]; exact hj
  obtain ⟨g1, g2, g3, _⟩ := h.at_ i hi hj
  have e : co H[i] (H[i].length - 1) = co (modL p G[i]) (H[i].length - 1) := by rw [← g3]
  rw [e, qy9, ← g1]
  show co G[i] (G[i].length - 1) % p = 1
  rw [g2]; exact Int.emod_eq_of_lt (by decide) (by omega)
structure Gv (p c top : Int) (G H : List (List Int)) (F : List Int) : Prop where
  fs : Fs p G H
  pc : ¬ p ∣ c
  t0 : 0 < top
  tl : top ≤ 4096
  inv : ∃ Z W, c * Z + top * W = 1
  cb : (c.natAbs : Int) < 4294967296 ^ 4
  ft : tz F = F
  fl : F.length ≤ 100
  fb : Bd 20 F
  lead : 0 < F.length ∧ co F (F.length - 1) = c
  prod : ∀ m, pq m F = qint m c * pq m (prL G)
theorem Gv.lead_ev {p c top : Int} {G H : List (List Int)} {F : List Int} (h : Gv p c top G H F) : Ev (fun K => qlE K (mkP F)) (mkI c) := by
  have fl := h.fl
  have := q24 (q8I (qm3 (n := 20) (by omega) h.fb)) (by rw [qc1]; omega)
  rw [qiI, h.ft] at this
  obtain ⟨h1, h2⟩ := h.lead
  rw [qdP (by omega)] at h2
  rw [List.getLastD_eq_getLast?, List.getLast?_eq_getElem?, List.getElem?_eq_getElem (by omega)] at this
  simp only [Option.getD_some, h2] at this
  exact this
theorem Gv.sc {p c top : Int} {G H : List (List Int)} {F : List Int} (h : Gv p c top G H F) : Sm (mkI c) ∧ (mkI c).Abs.length ≤ 4 := by
  have := h.cb
  exact ⟨q1P (n := 4) (by omega) (by omega) (by omega), qjD (by omega) (by omega)⟩
theorem zoB {p c top : Int} {G H : List (List Int)} {F : List Int} (h : Gv p c top G H F) {o : List Int} (ho : Cn p o) (hol : o.length ≤ 1000) (hoq : pq p o = pq p (prL H)) {mon : List (List Int)} :
    ∃ GO, Ev (fun K => (qhF K (mkP F) p).bind fun x2 => (qdQ K (mkI c) p).bind fun x4 => (qeC K o x4 p).bind fun x6 => (qrC K x2 x6 p).bind fun x8 =>
      bif (!x8) then some (([] : List qaB), ([] : List (List Int)), (3 : Int)) else (qo3 K (mkI c) (mkI top)).bind fun x11 => (qeK K (mkP F) x11.2.1).bind fun x13 => (qb5 K x13 (mkI top)).bind fun x15 => some (x15.1, mon, (0 : Int))) (mkP GO, mon, 0) ∧
      Cong top (co GO) (co (prL G)) ∧ Bd 1 GO ∧ GO.length ≤ 1000 := by
  have hp := h.fs.hs.pr
  have hr := hp.range
  have fl := h.fl
  have t0 := h.t0
  have tl := h.tl
  obtain ⟨sc, scl⟩ := h.sc
  have hfw : Ws (mkP F) := qm3 (n := 20) (by omega) h.fb
  have r1 := qzO hr hfw (by rw [qc1]; omega)
  rw [qiI] at r1
  have r2 := qg6 hr sc
  rw [qa2] at r2
  have hcm := qf6 (x := c) hr
  have r3 := qmC (c := c % p) hr (qkG hr.2 ho) (by omega) (by omega)
  have c1 := qm2 (p := p) (by omega) F
  have c2 := qm2 (p := p) (by omega) (o.map (· * (c % p)))
  have l1 := qkK p F
  have l2 := qkK p (o.map (· * (c % p)))
  rw [List.length_map] at l2
  have r4 := zhY hr (qkG hr.2 c1) (qkG hr.2 c2) (by omega) (by omega)
  have heq : modL p F = modL p (o.map (· * (c % p))) := by
    refine zqS (qzF.1 ?_)
    rw [← qpC p (o.map _), qqA, hoq, h.prod p]
    have e1 : pq p (prL H) = pq p (prL G) := by rw [h.fs.list]; exact zpN (fun l => qpC p l) G
    have e2 : qint p (c % p) = qint p c := by
      refine zeS fun k => ?_
      have := Int.emod_add_mul_ediv c p
      refine ⟨-(c / p) * pone k, ?_⟩
      rw [← Int.sub_mul, ← Int.mul_assoc]
      congr 1; rw [Int.mul_neg]; omega
    rw [e1, e2]
  rw [q3U c1, q3U c2, decide_eq_true heq] at r4
  obtain ⟨Z, W, hZW⟩ := h.inv
  obtain ⟨x, y, x1, x2, x3⟩ := zf4 ⟨t0, tl⟩ sc (by omega) ⟨Z, W, by rw [qa2]; exact hZW⟩
  rw [qa2] at x2
  have sx : Sm (mkI x) := q1P (n := 1) (by omega) (by omega) (by omega)
  have hfb := h.fb
  have hxb : Bd 22 (F.map (x * ·)) := by
    intro z hz
    obtain ⟨w, hw, rfl⟩ := List.mem_map.1 hz
    have h1 := hfb w hw
    have h2 := qe2 20
    have h3 : (x * w).natAbs ≤ 4096 * w.natAbs := by rw [Int.natAbs_mul]; exact Nat.mul_le_mul_right _ x3
    rw [Int.pow_succ _ 21, Int.pow_succ _ 20]
    omega
  have r5 := qvD (q8I hfw) (c := mkI x) ⟨sx.1, by have := sx.2; omega⟩ (by rw [qc1]; omega) (by rw [qiI, qa2]; exact q8I (qm3 (n := 22) (by omega) hxb))
  rw [qiI, qa2] at r5
  have st : Sm (mkI top) := q1P (n := 1) (by omega) (by omega) (by omega)
  have tl5 := qrA (F.map (x * ·))
  rw [List.length_map] at tl5
  have r6 := qmE (qm3 (n := 22) (by omega) (zf9 hxb)) st (by rw [qa2]; omega) (by rw [qc1]; omega)
  rw [qa2, qiI, zb5] at r6
  refine ⟨redL top (F.map (x * ·)), qaG r1 (qaG r2 (qaG r3 (qaG r4 (ev_f rfl (qaG x1 (qaG r5 (qaG r6 (qaT _)))))))), ?_, zj2 (by omega) _, ?_⟩
  · refine qzF.1 ?_
    have e : pq top (F.map (x * ·)) = qint top x * pq top F := by
      have : co (F.map (x * ·)) = fun k => x * co F k := by
        funext k
        simp only [co, List.getD_eq_getElem?_getD, List.getElem?_map]
        cases F[k]? <;> simp
      unfold pq; rw [this]; exact (qyE x (co F)).symm
    have e2 : qint top x * qint top c = 1 := by rw [← zg0]; exact zgC x2
    rw [q65, e, h.prod top]
    grind
  · have := qm9 top (F.map (x * ·)); rw [List.length_map] at this; omega
theorem zqH {p c top : Int} {G H : List (List Int)} {F : List Int} (h : Gv p c top G H F) : ∀ (m i : Nat) (o : List Int), i + m = H.length → Cn p o → o.length ≤ 1 + 4 * i → pq p o = pq p (prL (H.take i)) →
    ∃ GO, Ev (fun K => qcV K (.c2 (mkI top) (mkI c) (H.take i) (mkP F) p o H H.length i)) (mkP GO, H, 0) ∧ Cong top (co GO) (co (prL G)) ∧ Bd 1 GO ∧ GO.length ≤ 1000
  | 0, i, o, hi, ho, hol, hoq => by
    have hf := h.fs.hs.few
    rw [List.take_of_length_le (by omega)] at hoq ⊢
    obtain ⟨GO, e1, e2⟩ := zoB h ho (by omega) hoq (mon := H)
    refine ⟨GO, ?_, e2⟩
    refine qaJ ?_
    simp only [qcV]
    exact ev_f (by simp; omega) e1
  | m + 1, i, o, hi, ho, hol, hoq => by
    have hp := h.fs.hs.pr
    have hr := hp.range
    have hf := h.fs.hs.few
    have hil : i < H.length := by omega
    obtain ⟨c1, c2, c3⟩ := h.fs.hs.at hil
    have hm := zq6 hp c1 (by omega) (by omega) (h.fs.top hil)
    have hmul := qmO hr (qkG hr.2 ho) (qkG hr.2 c1) (by omega) (by omega)
    have hml := qkK p (mulL o H[i])
    rw [qv9] at hml
    have et : H.take i ++ [H[i]] = H.take (i + 1) := by rw [List.take_add_one, List.getElem?_eq_getElem hil]; rfl
    obtain ⟨GO, e1, e2⟩ := zqH h m (i + 1) (modL p (mulL o H[i])) (by omega) (qm2 (by omega) _) (by omega) (by rw [qpC, qgN, hoq, ← et, qwK, zg2])
    refine ⟨GO, ?_, e2⟩
    refine qaJ ?_
    simp only [qcV]
    refine ev_t (by simp; omega) (qa3 (qbN hil) (qaG hm (qeZ (by simp; omega) (qaG hmul ?_))))
    simp only
    rw [et, qbR (by omega), show (i : Int) + 1 = ((i + 1 : Nat) : Int) by omega]
    exact e1
theorem zuJ {p c top : Int} {G H : List (List Int)} {F : List Int} (h : Gv p c top G H F) : ∃ GO, Ev (fun K => qyQ K (mkP F) H p (mkI top)) (mkP GO, H, 0) ∧ Cong top (co GO) (co (prL G)) ∧ Bd 1 GO ∧ GO.length ≤ 1000 := by
  have hp := h.fs.hs.pr
  have hr := hp.range
  have hf := h.fs.hs.few
  obtain ⟨sc, _⟩ := h.sc
  have r2 := qg6 hr sc
  rw [qa2] at r2
  have hone : Cn p [1] := ⟨fun x hx => by simp at hx; omega, rfl⟩
  suffices hs : ∃ GO, Ev (fun K => qcV K (.c1 (mkI top) (mkI c) [1] (mkP F) p H H.length 0)) (mkP GO, H, 0) ∧ Cong top (co GO) (co (prL G)) ∧ Bd 1 GO ∧ GO.length ≤ 1000 by
    obtain ⟨GO, e1, e2⟩ := hs
    refine ⟨GO, ?_, e2⟩
    refine qaJ ?_
    simp only [qyQ, qcV]
    exact qaG h.lead_ev (qaG r2 (ev_f (by simp; exact fun e => h.pc (Int.dvd_of_emod_eq_zero e)) e1))
  by_cases h0 : H.length = 0
  · have hn : H = [] := List.eq_nil_of_length_eq_zero h0
    subst hn
    obtain ⟨GO, e1, e2⟩ := zoB h hone (by simp) (by rw [zb6]) (mon := [])
    refine ⟨GO, ?_, e2⟩
    refine qaJ ?_
    simp only [qcV]
    exact ev_f (by simp) e1
  · have hil : 0 < H.length := by omega
    obtain ⟨c1, c2, c3⟩ := h.fs.hs.at hil
    have hm := zq6 hp c1 (by omega) (by omega) (h.fs.top hil)
    have hmul := qmO hr (qkG hr.2 hone) (qkG hr.2 c1) (by simp) (by omega)
    have hml := qkK p (mulL [1] H[0])
    rw [qv9] at hml
    have et : [H[0]] = H.take 1 := by rw [List.take_add_one, List.getElem?_eq_getElem hil]; rfl
    obtain ⟨GO, e1, e2⟩ := zqH h (H.length - 1) 1 (modL p (mulL [1] H[0])) (by omega) (qm2 (by omega) _) (by simp at hml; omega) (by rw [qpC, qgN, ← et, zg2, q5U]; grind)
    refine ⟨GO, ?_, e2⟩
    refine qaJ ?_
    simp only [qcV]
    refine ev_t (by simp; omega) (qa3 (ztC (by decide) (by simpa using hil)) (qaG hm (qaG hmul ?_)))
    simp only
    rw [et]
    exact e1
theorem zr9 (j : Nat) : Int.tmod (j : Int) 2 = ((j % 2 : Nat) : Int) := by
  rw [Int.tmod_eq_emod_of_nonneg (by omega)]; omega
theorem zxI (P : Int) : now P [] = [] := rfl
section
variable {p c : Int} {G H S : List (List Int)} {F GO : List Int} {n : Nat}
theorem lc_at (h : Gv p c (p ^ n) G H F) (hs : Ps p H S) (g1 : Cong (p ^ n) (co GO) (co (prL G))) (g2 : Bd 1 GO) (g3 : GO.length ≤ 1000) {j : Nat} (h1 : 1 ≤ j) (h2 : j < n) : Lc p (p ^ j) (p ^ n) G H S GO := by
  have hr := h.fs.hs.pr.range
  have hj : p ∣ p ^ j := by
    obtain ⟨i, rfl⟩ : ∃ i, j = i + 1 := ⟨j - 1, by omega⟩
    exact ⟨p ^ i, by rw [Int.pow_succ]; exact Int.mul_comm _ _⟩
  have hpos : ∀ i : Nat, 0 < p ^ i := fun i => Int.pow_pos (by omega)
  refine ⟨h.fs, hs, ?_, hj, ?_, h.t0, h.tl, g1, g2, g3⟩
  · have := Int.le_of_dvd (hpos j) hj; omega
  · exact ⟨p ^ (n - (j + 1)), by rw [← Int.pow_succ, ← Int.pow_add]; congr 1; omega⟩
theorem znZ (h : Gv p c (p ^ n) G H F) (hs : Ps p H S) (g1 : Cong (p ^ n) (co GO) (co (prL G))) (g2 : Bd 1 GO) (g3 : GO.length ≤ 1000) (hG : 0 < G.length) (hn : n < 100000) :
    ∀ (m j : Nat) (pair : qeN), j + m = n → 1 ≤ j → ((j - 1) % 2 = 0 → pair.e0 = now (p ^ j) G) → ((j - 1) % 2 = 1 → pair.e1 = now (p ^ j) G) →
      Ev (fun K => qaE K (.c24 (mkI p) (mkI (p ^ n)) pair (mkI (p ^ j)) p n (mkP GO) H S j)) (now (p ^ n) G, 0)
  | 0, j, pair, hj, h1, e0, e1 => by
    obtain rfl : j = n := by omega
    have hH : 0 < H.length := by rw [← h.fs.len]; exact hG
    refine qaJ ?_
    simp only [qaE]
    rw [qbR (by omega), show (j : Int) - 1 = ((j - 1 : Nat) : Int) by omega, zr9]
    refine ev_t (by simp) (ev_f (by simp only [decide_eq_false_iff_not]; omega) ?_)
    by_cases hp0 : (j - 1) % 2 = 0
    · rw [e0 hp0, hp0]; exact ev_t rfl (qaT _)
    · have hp1 : (j - 1) % 2 = 1 := by omega
      rw [e1 hp1, hp1]; exact ev_f rfl (ev_t rfl (qaT _))
  | m + 1, j, pair, hj, h1, e0, e1 => by
    have hH : 0 < H.length := by rw [← h.fs.len]; exact hG
    have lc := lc_at h hs g1 g2 g3 h1 (show j < n by omega)
    refine qaJ ?_
    simp only [qaE]
    rw [qbR (x := (j : Int) - 1) (by omega), show (j : Int) - 1 = ((j - 1 : Nat) : Int) by omega, zr9]
    refine ev_f (by simp only [decide_eq_false_iff_not]; omega) (ev_f (by simp only [decide_eq_false_iff_not]; omega) ?_)
    have hB : Ev (fun K => qaE K (.c25 (mkI p) (mkI (p ^ n)) pair (mkI (p ^ j)) p n (mkP GO) H S j (now (p ^ j) G) (mkP (qfE (p ^ n) (p ^ j) G GO)) (mkP (qfE (p ^ n) (p ^ j) G GO)).length 0)) (now (p ^ n) G, 0) := by
      refine stepB lc hG ?_
      rw [zr9, ← Int.pow_succ]
      by_cases hp0 : j % 2 = 0
      · rw [hp0]
        refine ev_t rfl (qaJ ?_)
        simp only [qaE]
        rw [qbR (by omega), show (j : Int) + 1 = ((j + 1 : Nat) : Int) by omega]
        exact znZ h hs g1 g2 g3 hG hn m (j + 1) _ (by omega) (by omega) (fun _ => rfl) (fun hx => by omega)
      · have hp1 : j % 2 = 1 := by omega
        rw [hp1]
        refine ev_f rfl (ev_t rfl (qaJ ?_))
        simp only [qaE]
        rw [qbR (by omega), show (j : Int) + 1 = ((j + 1 : Nat) : Int) by omega]
        exact znZ h hs g1 g2 g3 hG hn m (j + 1) _ (by omega) (by omega) (fun hx => by omega) (fun _ => rfl)
    by_cases hp0 : (j - 1) % 2 = 0
    · rw [e0 hp0, hp0]
      exact ev_t rfl (zpI lc (fun K x8 => qaE K (.c25 (mkI p) (mkI (p ^ n)) pair (mkI (p ^ j)) p n (mkP GO) H S j (now (p ^ j) G) x8 (x8.length : Int) (0 : Int))) _ hB)
    · have hp1 : (j - 1) % 2 = 1 := by omega
      rw [e1 hp1, hp1]
      exact ev_f rfl (ev_t rfl (zpI lc (fun K x8 => qaE K (.c25 (mkI p) (mkI (p ^ n)) pair (mkI (p ^ j)) p n (mkP GO) H S j (now (p ^ j) G) x8 (x8.length : Int) (0 : Int))) _ hB))
theorem zxZ (h : Gv p c (p ^ n) G H F) (hs : Ps p H S) (g1 : Cong (p ^ n) (co GO) (co (prL G))) (g2 : Bd 1 GO) (g3 : GO.length ≤ 1000) (hG : 0 < G.length) (hn : n < 100000) (h1 : 1 ≤ n) :
    Ev (fun K => qaE K (.c5 (mkI p) (mkI (p ^ n)) (now p G) (mkI p) p n (mkP GO) H S 1)) (now (p ^ n) G, 0) := by
  have hH : 0 < H.length := by rw [← h.fs.len]; exact hG
  refine qaJ ?_
  simp only [qaE]
  by_cases hk : n = 1
  · subst hk
    refine ev_t rfl (ev_f (by simp only [decide_eq_false_iff_not]; omega) ?_)
    rw [Int.pow_succ, Int.pow_zero, Int.one_mul]
    exact ev_t (by decide) (qaT _)
  · have lc := lc_at h hs g1 g2 g3 (j := 1) (by omega) (show 1 < n by omega)
    have ep : p ^ 1 = p := by rw [Int.pow_succ, Int.pow_zero, Int.one_mul]
    rw [ep] at lc
    refine ev_f (by simp only [decide_eq_false_iff_not]; omega) (ev_f (by simp only [decide_eq_false_iff_not]; omega) (ev_t (by decide) ?_))
    refine zpI lc (fun K x8 => qaE K (.c7 (mkI p) (mkI (p ^ n)) (now p G) (mkI p) p n (mkP GO) H S 1 (now p G) x8 (x8.length : Int) (0 : Int))) _ (stepA lc hG ?_)
    refine ev_f (by decide) (ev_t (by decide) (qaJ ?_))
    simp only [qaE]
    have e2 : p * p = p ^ 2 := by rw [Int.pow_succ, ep]
    rw [e2, show wI6 ((1 : Int) + 1) = ((2 : Nat) : Int) by decide]
    exact znZ h hs g1 g2 g3 hG hn (n - 2) 2 _ (by omega) (by omega) (fun hx => by omega) (fun _ => rfl)
theorem zt2 (h : Gv p c (p ^ n) G H F) (hs : Ps p H S) (g1 : Cong (p ^ n) (co GO) (co (prL G))) (g2 : Bd 1 GO) (g3 : GO.length ≤ 1000) (hG : 0 < G.length) (hn : n < 100000) (h1 : 1 ≤ n) :
    ∀ (m i : Nat), i + m = G.length → Ev (fun K => qaE K (.c3 (mkI p) (mkI (p ^ n)) ((now p G).take i) p n (mkP GO) H S H H.length i)) (now (p ^ n) G, 0)
  | 0, i, hi => by
    have hl := h.fs.len
    refine qaJ ?_
    simp only [qaE]
    rw [List.take_of_length_le (by rw [qvG]; omega)]
    exact ev_f (by simp only [decide_eq_false_iff_not]; omega) (zxZ h hs g1 g2 g3 hG hn h1)
  | m + 1, i, hi => by
    have hr := h.fs.hs.pr.range
    have hl := h.fs.len
    have hf := h.fs.hs.few
    have hi' : i < G.length := by omega
    have hiH : i < H.length := by omega
    obtain ⟨c1, c2, c3⟩ := h.fs.hs.at hiH
    have sy := qpI hr (qkG hr.2 c1) (by omega)
    have eh : redL p H[i] = redL p G[i] := by
      rw [(h.fs.at_ i hi' hiH).2.2.1]
      exact q4L (qzF.1 (qpC p _))
    rw [eh] at sy
    have e : (now p G).take i ++ [mkP (redL p G[i])] = (now p G).take (i + 1) := by
      rw [List.take_add_one, qy3 hi']; rfl
    refine qaJ ?_
    simp only [qaE]
    refine ev_t (by simp only [decide_eq_true_eq]; omega) (qa3 (qbN hiH) (qaG sy (qeZ (by rw [e]; simp only [List.length_take, qvG]; omega) ?_)))
    rw [e, qbR (by omega), show (i : Int) + 1 = ((i + 1 : Nat) : Int) by omega]
    exact zt2 h hs g1 g2 g3 hG hn h1 m (i + 1) (by omega)
theorem zx0 (h : Gv p c (p ^ n) G H F) (hs : Ps p H S) (g1 : Cong (p ^ n) (co GO) (co (prL G))) (g2 : Bd 1 GO) (g3 : GO.length ≤ 1000) (hn : n < 100000) (h1 : 1 ≤ n) :
    Ev (fun K => qaE K (.c2 (mkI p) (mkI (p ^ n)) p n (mkP GO) H S H H.length 0)) (now (p ^ n) G, 0) := by
  have hr := h.fs.hs.pr.range
  have hl := h.fs.len
  by_cases hG : 0 < G.length
  · have hiH : 0 < H.length := by omega
    obtain ⟨c1, c2, c3⟩ := h.fs.hs.at hiH
    have sy := qpI hr (qkG hr.2 c1) (by omega)
    have eh : redL p H[0] = redL p G[0] := by
      rw [(h.fs.at_ 0 hG hiH).2.2.1]
      exact q4L (qzF.1 (qpC p _))
    rw [eh] at sy
    have e : [mkP (redL p G[0])] = (now p G).take 1 := by
      rw [List.take_add_one, qy3 hG]; rfl
    refine qaJ ?_
    simp only [qaE]
    refine ev_t (by simp only [decide_eq_true_eq]; omega) (qa3 (ztC (by decide) (by simpa using hiH)) (qaG sy ?_))
    rw [e]
    exact zt2 h hs g1 g2 g3 hG hn h1 (G.length - 1) 1 (by omega)
  · have hn0 : G = [] := List.eq_nil_of_length_eq_zero (by omega)
    have hm0 : H = [] := List.eq_nil_of_length_eq_zero (by omega)
    subst hn0 hm0
    rw [zxI]
    refine qaJ ?_
    simp only [qaE]
    refine ev_f (by decide) (qaJ ?_)
    simp only [qaE]
    by_cases hk : n = 1
    · subst hk; exact ev_t rfl (ev_t rfl (qaT _))
    · exact ev_f (by simp only [decide_eq_false_iff_not]; omega) (ev_t rfl (ev_t rfl (qaT _)))
theorem zt3 (hp : Pr p) (hn : n < 100000) (htl : p ^ n ≤ 4096) {f : List qaB} {res : List (List qaB) × Int} (hk : Ev (fun K => qaE K (.c1 (mkI p) (mkI (p ^ n)) f H p n ((n - 1 : Nat) : Int) ((n - 1 : Nat) : Int))) res) :
    ∀ (m i : Nat), i + m + 1 = n → Ev (fun K => qaE K (.c1 (mkI p) (mkI (p ^ (i + 1))) f H p n ((n - 1 : Nat) : Int) i)) res
  | 0, i, hi => by
    obtain rfl : n = i + 1 := by omega
    exact hk
  | m + 1, i, hi => by
    have hr := hp.range
    have hpos : ∀ i : Nat, 0 < p ^ i := fun i => Int.pow_pos (by omega)
    have hle : p ^ (i + 1) ≤ p ^ n := Int.le_of_dvd (hpos n) ⟨p ^ (n - (i + 1)), by rw [← Int.pow_add]; congr 1; omega⟩
    have h0 := hpos (i + 1)
    have hm := qfQ (qfZ (p ^ (i + 1))) (qfZ p) (by
      have := qjD (z := p ^ (i + 1)) (n := 1) (by omega) (by omega)
      have := qjD (z := p) (n := 1) (by omega) (by omega)
      omega)
    rw [qa2, qa2, ← Int.pow_succ] at hm
    refine qaJ ?_
    simp only [qaE]
    refine ev_t (by simp only [decide_eq_true_eq]; omega) (qaG hm ?_)
    rw [qbR (by omega), show (i : Int) + 1 = ((i + 1 : Nat) : Int) by omega]
    exact zt3 hp hn htl hk m (i + 1) (by omega)
theorem zx2 (h : Gv p c (p ^ n) G H F) (hw : Pw p H 0) (hn : n < 100000) (h1 : 1 ≤ n) : Ev (fun K => qjF K (mkP F) H p n) (now (p ^ n) G, 0) := by
  have hp := h.fs.hs.pr
  have hr := hp.range
  obtain ⟨e, c1, c2⟩ := znW h.fs.hs
  obtain ⟨rfl, _⟩ := c2.resolve_right fun hx => hx.2 hw
  obtain ⟨GO, s1, g1, g2, g3⟩ := zuJ h
  obtain ⟨S, s2, hs⟩ := zo4 h.fs.hs hw
  obtain ⟨sc, _⟩ := h.sc
  have r2 := qg6 hr sc
  rw [qa2] at r2
  refine qaJ ?_
  simp only [qjF, qaE]
  refine qaG (qtY hp) (ev_f rfl (ev_f (by simp only [decide_eq_false_iff_not]; omega) (qaG c1 (ev_f rfl (qaG h.lead_ev (qaG r2 (ev_f (by simp; exact fun e => h.pc (Int.dvd_of_emod_eq_zero e)) ?_)))))))
  rw [qbR (x := p) (by omega)]
  refine qaG (qf9 (by omega)) ?_
  rw [qbR (by omega), show (n : Int) - 1 = ((n - 1 : Nat) : Int) by omega]
  have hv := zt3 (n := n) (H := H) (f := mkP F) (res := (now (p ^ n) G, 0)) hp hn h.tl (by
    refine qaJ ?_
    simp only [qaE]
    exact ev_f (by simp) (qaG s1 (ev_f rfl (qaG s2 (zx0 h hs g1 g2 g3 hn h1))))) (n - 1) 0 (by omega)
  rw [Int.pow_succ, Int.pow_zero, Int.one_mul] at hv
  exact hv
theorem zx1 (h : Hs p H) (hw : ¬ Pw p H 0) (hn : n < 100000) (h1 : 1 ≤ n) (f : List qaB) : Ev (fun K => qjF K f H p n) ([], 5) := by
  have hp := h.pr
  obtain ⟨e, c1, c2⟩ := znW h
  obtain ⟨rfl, _⟩ := c2.resolve_left fun hx => hw hx.2
  refine qaJ ?_
  simp only [qjF, qaE]
  exact qaG (qtY hp) (ev_f rfl (ev_f (by simp only [decide_eq_false_iff_not]; omega) (qaG c1 (ev_t rfl (qaT _)))))
theorem zt4 (h : Hs p H) (hw : Pw p H 0) (hn : n < 100000) (h1 : 1 ≤ n) {f : List qaB} (hl : Ev (fun K => qlE K f) (mkI c)) (sc : Sm (mkI c)) (hd : c % p = 0) : Ev (fun K => qjF K f H p n) ([], 3) := by
  have hp := h.pr
  obtain ⟨e, c1, c2⟩ := znW h
  obtain ⟨rfl, _⟩ := c2.resolve_right fun hx => hx.2 hw
  have r2 := qg6 hp.range sc
  rw [qa2] at r2
  refine qaJ ?_
  simp only [qjF, qaE]
  exact qaG (qtY hp) (ev_f rfl (ev_f (by simp only [decide_eq_false_iff_not]; omega) (qaG c1 (ev_f rfl (qaG hl (qaG r2 (ev_t (by simp [hd]) (qaT _))))))))
end
open Go.Proofs.Try (prog)
inductive qiQ where
 | c0 (n : Int)
def qf7 : Nat → qiQ → Option Int
 | 0, _ => none
 | _ + 1, .c0 n =>
  gd (((6 : Nat) : Int) ≠ 0) <|
  (gi ([(2 : Int), (3 : Int), (5 : Int), (7 : Int), (11 : Int), (13 : Int)] : List Int) (Int.tmod (wI6 n) ((6 : Nat) : Int))).bind fun x2 =>
  some x2
def ql9 (K : Nat) (n : Int) : Option Int := qf7 K (.c0 n)
noncomputable def q0H : Code := qbQ prog 57
noncomputable def q1I : qiQ → List Fr
 | .c0 .. => [.code q0H]
def q2X : qiQ → St
 | .c0 n => St.init [(ti .u8 n)]
def qu0 (cx : Cx) (c : qiQ) (r : Int) : Prop := Wk prog cx (qc2 prog 57 [[0]] (ti .u32 r)) (q1I c) .normal (q2X c)
abbrev qu1 (K : Nat) : Prop := ∀ c r, qf7 K c = some r → ∀ cx : Cx, cx.n = 13 → qu0 cx c r
theorem q2Y {K} (_ : qu1 K) {cx} (hn : cx.n = 13) {n} {r} (h : qf7 (K + 1) (.c0 n) = some r) : qu0 cx (.c0 n) r := by
 rw [qf7] at h
 obtain ⟨h1, h⟩ := qbI h
 obtain ⟨x2, h3, h⟩ := qaH h
 have h := oinj h; subst h
 exact wkR [rg1, rgG [opI (.lit (([(2 : Int), (3 : Int), (5 : Int), (7 : Int), (11 : Int), (13 : Int)] : List Int).map qaC)), oo], rgG [oo, oo, oo, oo, oo, .op .dv, .op .ir, opI (.ld (qaC x2)), oo]] hn (aC (by kernel_rfl : [(T.int .u32 (2 : Int)), (T.int .u32 (3 : Int)), (T.int .u32 (5 : Int)), (T.int .u32 (7 : Int)), (T.int .u32 (11 : Int)), (T.int .u32 (13 : Int))] = (([(2 : Int), (3 : Int), (5 : Int), (7 : Int), (11 : Int), (13 : Int)] : List Int).map qaC).flatten) <| aC h1 <| aC (qa1 h3) <| aC (qcB h3 (by simp) : (Int.tmod (wI6 n) ((6 : Nat) : Int)) < ((6 : Nat) : Int)) <| aC (qcA qaC h3 : (([(2 : Int), (3 : Int), (5 : Int), (7 : Int), (11 : Int), (13 : Int)] : List Int).map qaC)[(0 + (Int.tmod (wI6 n) ((6 : Nat) : Int)).toNat)]? = some (qaC x2)) <| aN)
theorem qs0 : ∀ K : Nat, qu1 K
 | 0, c, r, h => by rw [qf7] at h; cases h
 | K + 1, .c0 .., r, h => fun cx hn => q2Y (qs0 K) hn h
theorem qy8 {K : Nat} {n : Int} {r : Int} (h : ql9 K n = some r) : qc5 prog 57 [(ti .u8 n)] (ti .u32 r) :=
 qa0 [[0]] (by kernel_rfl) (by simp) fun cx hn => qs0 K (.c0 n) r h cx hn
open Go.Proofs.Try (prog)
inductive qiC where
 | c0 (l : (List qyA))
 | c1 (t10 : (List qyA)) (t11 : Int) (t12 : Int)
 | c2 (r38 : (List qaB)) (f : (List qaB)) (n : Int) (t10 : (List qyA)) (t11 : Int) (t12 : Int) (t39 : Int) (t40 : Int)
 | c3 (r38 : (List qaB)) (f : (List qaB)) (n : Int) (t10 : (List qyA)) (t11 : Int) (t12 : Int) (t39 : Int) (t40 : Int)
 | c4 (r66 : (List (List qaB))) (t10 : (List qyA)) (t11 : Int) (t12 : Int)
 | c5 (r38 : (List qaB)) (r66 : (List (List qaB))) (f : (List qaB)) (n : Int) (t10 : (List qyA)) (t11 : Int) (t12 : Int) (t39 : Int) (t40 : Int)
 | c6 (r38 : (List qaB)) (r66 : (List (List qaB))) (f : (List qaB)) (n : Int) (t10 : (List qyA)) (t11 : Int) (t12 : Int) (t39 : Int) (t40 : Int)
def qaP : Nat → qiC → Option (List (List qaB))
 | 0, _ => none
 | K + 1, .c0 l =>
  qaP K (.c1 l (l.length : Int) (0 : Int))
 | K + 1, .c1 t10 t11 t12 =>
  bif (decide (t12 < t11)) then
   (gi t10 t12).bind fun x2 =>
   (qiV K ([(wI6 x2.e0), (wI6 x2.e1), (wI6 x2.e2)] : List Int)).bind fun x4 =>
   gd (0 ≤ (wI6 ((wI6 ((1 : Int) + (Int.tmod (wI6 (t12 + (wI6 (bits .and .i8 x2.e0 (1 : Int))))) (3 : Int)))) + (1 : Int))) ∧ (wI6 ((wI6 ((1 : Int) + (Int.tmod (wI6 (t12 + (wI6 (bits .and .i8 x2.e0 (1 : Int))))) (3 : Int)))) + (1 : Int))) ≤ (wI6 ((wI6 ((1 : Int) + (Int.tmod (wI6 (t12 + (wI6 (bits .and .i8 x2.e0 (1 : Int))))) (3 : Int)))) + (1 : Int))) ∧ (32 : Int) * (wI6 ((wI6 ((1 : Int) + (Int.tmod (wI6 (t12 + (wI6 (bits .and .i8 x2.e0 (1 : Int))))) (3 : Int)))) + (1 : Int))) ≤ 140737488355328) <|
   qaP K (.c2 (List.replicate (wI6 ((wI6 ((1 : Int) + (Int.tmod (wI6 (t12 + (wI6 (bits .and .i8 x2.e0 (1 : Int))))) (3 : Int)))) + (1 : Int))).toNat ((qaB.mk false []) : qaB)) x4 (wI6 ((1 : Int) + (Int.tmod (wI6 (t12 + (wI6 (bits .and .i8 x2.e0 (1 : Int))))) (3 : Int)))) t10 t11 t12 (wI6 ((1 : Int) + (Int.tmod (wI6 (t12 + (wI6 (bits .and .i8 x2.e0 (1 : Int))))) (3 : Int)))) (0 : Int))
  else
   some []
 | K + 1, .c2 r38 f n t10 t11 t12 t39 t40 =>
  bif (decide (t40 < t39)) then
   (qiA K (0 : Int)).bind fun x2 =>
   (gi r38 t40).bind fun _ =>
   bif (decide (t40 < (f.length : Int))) then
    (gi f t40).bind fun x7 =>
    (gi (r38.set (t40.toNat) x2) t40).bind fun _ =>
    qaP K (.c3 ((r38.set (t40.toNat) x2).set (t40.toNat) x7) f n t10 t11 t12 t39 t40)
   else
    qaP K (.c3 (r38.set (t40.toNat) x2) f n t10 t11 t12 t39 t40)
  else
   (qi8 K ).bind fun x2 =>
   (gi r38 n).bind fun _ =>
   qaP K (.c4 ([(r38.set (n.toNat) x2)] : List (List qaB)) t10 t11 (wI6 (t12 + (1 : Int))))
 | K + 1, .c3 r38 f n t10 t11 t12 t39 t40 =>
  qaP K (.c2 r38 f n t10 t11 t12 t39 (wI6 (t40 + (1 : Int))))
 | K + 1, .c4 r66 t10 t11 t12 =>
  bif (decide (t12 < t11)) then
   (gi t10 t12).bind fun x2 =>
   (qiV K ([(wI6 x2.e0), (wI6 x2.e1), (wI6 x2.e2)] : List Int)).bind fun x4 =>
   gd (0 ≤ (wI6 ((wI6 ((1 : Int) + (Int.tmod (wI6 (t12 + (wI6 (bits .and .i8 x2.e0 (1 : Int))))) (3 : Int)))) + (1 : Int))) ∧ (wI6 ((wI6 ((1 : Int) + (Int.tmod (wI6 (t12 + (wI6 (bits .and .i8 x2.e0 (1 : Int))))) (3 : Int)))) + (1 : Int))) ≤ (wI6 ((wI6 ((1 : Int) + (Int.tmod (wI6 (t12 + (wI6 (bits .and .i8 x2.e0 (1 : Int))))) (3 : Int)))) + (1 : Int))) ∧ (32 : Int) * (wI6 ((wI6 ((1 : Int) + (Int.tmod (wI6 (t12 + (wI6 (bits .and .i8 x2.e0 (1 : Int))))) (3 : Int)))) + (1 : Int))) ≤ 140737488355328) <|
   qaP K (.c5 (List.replicate (wI6 ((wI6 ((1 : Int) + (Int.tmod (wI6 (t12 + (wI6 (bits .and .i8 x2.e0 (1 : Int))))) (3 : Int)))) + (1 : Int))).toNat ((qaB.mk false []) : qaB)) r66 x4 (wI6 ((1 : Int) + (Int.tmod (wI6 (t12 + (wI6 (bits .and .i8 x2.e0 (1 : Int))))) (3 : Int)))) t10 t11 t12 (wI6 ((1 : Int) + (Int.tmod (wI6 (t12 + (wI6 (bits .and .i8 x2.e0 (1 : Int))))) (3 : Int)))) (0 : Int))
  else
   some r66
 | K + 1, .c5 r38 r66 f n t10 t11 t12 t39 t40 =>
  bif (decide (t40 < t39)) then
   (qiA K (0 : Int)).bind fun x2 =>
   (gi r38 t40).bind fun _ =>
   bif (decide (t40 < (f.length : Int))) then
    (gi f t40).bind fun x7 =>
    (gi (r38.set (t40.toNat) x2) t40).bind fun _ =>
    qaP K (.c6 ((r38.set (t40.toNat) x2).set (t40.toNat) x7) r66 f n t10 t11 t12 t39 t40)
   else
    qaP K (.c6 (r38.set (t40.toNat) x2) r66 f n t10 t11 t12 t39 t40)
  else
   (qi8 K ).bind fun x2 =>
   (gi r38 n).bind fun _ =>
   gd ((r66 ++ ([(r38.set (n.toNat) x2)] : List (List qaB))).length * 24 ≤ 140737488355328) <|
   qaP K (.c4 (r66 ++ ([(r38.set (n.toNat) x2)] : List (List qaB))) t10 t11 (wI6 (t12 + (1 : Int))))
 | K + 1, .c6 r38 r66 f n t10 t11 t12 t39 t40 =>
  qaP K (.c5 r38 r66 f n t10 t11 t12 t39 (wI6 (t40 + (1 : Int))))
def qkP (K : Nat) (l : (List qyA)) : Option (List (List qaB)) := qaP K (.c0 l)
noncomputable def qaV : Code := qbQ prog 59
noncomputable def q0C : qiC → List Fr
 | .c0 .. => [.code qaV]
 | .c1 .. => [.code (.loop (atC qaV [1,1,0,1,0,0])), .blk 0, .code (atC qaV [1,1,1])]
 | .c2 .. => [.code (.loop (atC qaV [1,1,0,1,0,0,1,1,0,0,1,1,1,1,0,1,0,0])), .blk 2, .code (atC qaV [1,1,0,1,0,0,1,1,0,0,1,1,1,1,1]), .blk 1, .code (atC qaV [1,1,0,1,0,0,1,1,1]), .lp (atC qaV [1,1,0,1,0,0]), .blk 0, .code (atC qaV [1,1,1])]
 | .c3 .. => [.code (atC qaV [1,1,0,1,0,0,1,1,0,0,1,1,1,1,0,1,0,0,1,1,1]), .lp (atC qaV [1,1,0,1,0,0,1,1,0,0,1,1,1,1,0,1,0,0]), .blk 2, .code (atC qaV [1,1,0,1,0,0,1,1,0,0,1,1,1,1,1]), .blk 1, .code (atC qaV [1,1,0,1,0,0,1,1,1]), .lp (atC qaV [1,1,0,1,0,0]), .blk 0, .code (atC qaV [1,1,1])]
 | .c4 .. => [.code (.loop (atC qaV [1,1,0,1,0,0])), .blk 0, .code (atC qaV [1,1,1])]
 | .c5 .. => [.code (.loop (atC qaV [1,1,0,1,0,0,1,1,0,0,1,1,1,1,0,1,0,0])), .blk 2, .code (atC qaV [1,1,0,1,0,0,1,1,0,0,1,1,1,1,1]), .blk 1, .code (atC qaV [1,1,0,1,0,0,1,1,1]), .lp (atC qaV [1,1,0,1,0,0]), .blk 0, .code (atC qaV [1,1,1])]
 | .c6 .. => [.code (atC qaV [1,1,0,1,0,0,1,1,0,0,1,1,1,1,0,1,0,0,1,1,1]), .lp (atC qaV [1,1,0,1,0,0,1,1,0,0,1,1,1,1,0,1,0,0]), .blk 2, .code (atC qaV [1,1,0,1,0,0,1,1,0,0,1,1,1,1,1]), .blk 1, .code (atC qaV [1,1,0,1,0,0,1,1,1]), .lp (atC qaV [1,1,0,1,0,0]), .blk 0, .code (atC qaV [1,1,1])]
def q1A : qiC → St
 | .c0 l => St.init [(tl 3 l qgV)]
 | .c1 t10 t11 t12 => ⟨[(3, .c (C.nil)), (10, vl 3 t10 qgV), (11, vi .i64 t11), (12, vi .i64 t12)], [], []⟩
 | .c2 r38 f n t10 t11 t12 t39 t40 => ⟨[(3, .c (C.nil)), (6, vl 2 f qaA), (7, vi .i64 n), (8, .c (C.row 38 0 r38.length)), (10, vl 3 t10 qgV), (11, vi .i64 t11), (12, vi .i64 t12), (39, vi .i64 t39), (40, vi .i64 t40)], [(38, .row 45 2 (r38.map qaA) 0)], []⟩
 | .c3 r38 f n t10 t11 t12 t39 t40 => ⟨[(3, .c (C.nil)), (6, vl 2 f qaA), (7, vi .i64 n), (8, .c (C.row 38 0 r38.length)), (10, vl 3 t10 qgV), (11, vi .i64 t11), (12, vi .i64 t12), (39, vi .i64 t39), (40, vi .i64 t40)], [(38, .row 45 2 (r38.map qaA) 0)], []⟩
 | .c4 r66 t10 t11 t12 => ⟨[(3, .c (C.row 66 0 r66.length)), (10, vl 3 t10 qgV), (11, vi .i64 t11), (12, vi .i64 t12)], [(66, .row 90 1 (r66.map qaD) 0)], []⟩
 | .c5 r38 r66 f n t10 t11 t12 t39 t40 => ⟨[(3, .c (C.row 66 0 r66.length)), (6, vl 2 f qaA), (7, vi .i64 n), (8, .c (C.row 38 0 r38.length)), (10, vl 3 t10 qgV), (11, vi .i64 t11), (12, vi .i64 t12), (39, vi .i64 t39), (40, vi .i64 t40)], [(38, .row 45 2 (r38.map qaA) 0), (66, .row 90 1 (r66.map qaD) 0)], []⟩
 | .c6 r38 r66 f n t10 t11 t12 t39 t40 => ⟨[(3, .c (C.row 66 0 r66.length)), (6, vl 2 f qaA), (7, vi .i64 n), (8, .c (C.row 38 0 r38.length)), (10, vl 3 t10 qgV), (11, vi .i64 t11), (12, vi .i64 t12), (39, vi .i64 t39), (40, vi .i64 t40)], [(38, .row 45 2 (r38.map qaA) 0), (66, .row 90 1 (r66.map qaD) 0)], []⟩
def qeI (cx : Cx) (c : qiC) (r : (List (List qaB))) : Prop := Wk prog cx (qc2 prog 59 [[1]] (tl 1 r qaD)) (q0C c) .normal (q1A c)
abbrev qeJ (K : Nat) : Prop := ∀ c r, qaP K c = some r → ∀ cx : Cx, cx.n = 69 → qeI cx c r
theorem q1H {K} (ih : qeJ K) {cx} (hn : cx.n = 69) {l} {r} (h : qaP (K + 1) (.c0 l) = some r) : qeI cx (.c0 l) r := by
 rw [qaP] at h
 exact wkG [rg1, rg1, rgG [oo, opI (.ln (l.length : Int)), oo], .pre [.keep [3,10,11,12] []]] hn (aC (qaX l qgV) <| aN) (ih _ _ h cx hn)
theorem q1G {K} (ih : qeJ K) {cx} (hn : cx.n = 69) {t10 t11 t12} {r} (h : qaP (K + 1) (.c1 t10 t11 t12) = some r) : qeI cx (.c1 t10 t11 t12) r := by
 rw [qaP] at h
 rcases qaQ h with ⟨h1, h⟩ | ⟨h1, h⟩
 ·obtain ⟨x2, h3, h⟩ := qaH h
  obtain ⟨x4, h5, h⟩ := qaH h
  obtain ⟨h6, h⟩ := qbI h
  exact wkG [.go, rg1, bTr, rgG [oo, opI (.ix (qgV x2)), oo, oo, oo, oo], rgG [oo, oo, oo, oo, oo, oo, oo, oo, oo, opI (.lit (([(wI6 x2.e0), (wI6 x2.e1), (wI6 x2.e2)] : List Int).map qd4)), .snap 26 (max 0 (0 + 3)) (([(wI6 x2.e0), (wI6 x2.e1), (wI6 x2.e2)] : List Int).map qd4), opI (.call [[1]] [(TV.c (T.sl 1 (([(wI6 x2.e0), (wI6 x2.e1), (wI6 x2.e2)] : List Int).map qd4)))] (tl 2 x4 qaA)), oo], rgG [oo, oo, oo, oo, oo, oo, oo, oo, oo], rgG [oo, oo, opI (.mk (qaA (qaB.mk false [])) ((List.replicate (wI6 ((wI6 ((1 : Int) + (Int.tmod (wI6 (t12 + (wI6 (bits .and .i8 x2.e0 (1 : Int))))) (3 : Int)))) + (1 : Int))).toNat ((qaB.mk false []) : qaB)).map qaA)), oo], rg2, .pre [.rl 8 0 (List.replicate (wI6 ((wI6 ((1 : Int) + (Int.tmod (wI6 (t12 + (wI6 (bits .and .i8 x2.e0 (1 : Int))))) (3 : Int)))) + (1 : Int))).toNat ((qaB.mk false []) : qaB)).length, .keep [3,6,7,8,10,11,12,39,40] [38]]] hn (aC h1 <| aC (qa1 h3) <| aC (qbS qgV h3) <| aC (by kernel_rfl : [(T.int .i64 (wI6 x2.e0)), (T.int .i64 (wI6 x2.e1)), (T.int .i64 (wI6 x2.e2))] = (([(wI6 x2.e0), (wI6 x2.e1), (wI6 x2.e2)] : List Int).map qd4).flatten) <| aC (qbJ _ _ _ (by simp) : ((([(wI6 x2.e0), (wI6 x2.e1), (wI6 x2.e2)] : List Int).map qd4).drop 0).take 3 = ([(wI6 x2.e0), (wI6 x2.e1), (wI6 x2.e2)] : List Int).map qd4) <| aC (rfl : (max 0 (0 + 3)) = (max 0 (0 + 3))) <| aC (qeM h5) <| aC h6.1 <| aC h6.2.1 <| aC h6.2.2 <| aC (qgM _ _ _ : List.replicate (wI6 ((wI6 ((1 : Int) + (Int.tmod (wI6 (t12 + (wI6 (bits .and .i8 x2.e0 (1 : Int))))) (3 : Int)))) + (1 : Int))).toNat (qaA (qaB.mk false [])) = (List.replicate (wI6 ((wI6 ((1 : Int) + (Int.tmod (wI6 (t12 + (wI6 (bits .and .i8 x2.e0 (1 : Int))))) (3 : Int)))) + (1 : Int))).toNat ((qaB.mk false []) : qaB)).map qaA) <| aC r0 <| aC (by simp : (wI6 ((wI6 ((1 : Int) + (Int.tmod (wI6 (t12 + (wI6 (bits .and .i8 x2.e0 (1 : Int))))) (3 : Int)))) + (1 : Int))).toNat = (List.replicate (wI6 ((wI6 ((1 : Int) + (Int.tmod (wI6 (t12 + (wI6 (bits .and .i8 x2.e0 (1 : Int))))) (3 : Int)))) + (1 : Int))).toNat ((qaB.mk false []) : qaB)).length) <| aN) (ih _ _ h cx hn)
 ·have h := oinj h; subst h
  exact wkR [.go, rg1, bFa, rg2] hn (aC h1 <| aN)
theorem q1F {K} (ih : qeJ K) {cx} (hn : cx.n = 69) {r38 f n t10 t11 t12 t39 t40} {r} (h : qaP (K + 1) (.c2 r38 f n t10 t11 t12 t39 t40) = some r) : qeI cx (.c2 r38 f n t10 t11 t12 t39 t40) r := by
 rw [qaP] at h
 rcases qaQ h with ⟨h1, h⟩ | ⟨h1, h⟩
 ·obtain ⟨x2, h3, h⟩ := qaH h
  obtain ⟨x4, h5, h⟩ := qaH h
  rcases qaQ h with ⟨h6, h⟩ | ⟨h6, h⟩
  ·obtain ⟨x7, h8, h⟩ := qaH h
   obtain ⟨x9, h10, h⟩ := qaH h
   exact wkG [.go, rg1, bTr, rg2, rgG [oo, oo, opI (.call [[0]] [(TV.c (T.int .i64 (0 : Int)))] (TV.agg (qaA x2))), .op .ir, opI (.st (qaA x4) ((r38.set (t40.toNat) x2).map qaA))], rgG [oo, oo, opI (.ln (f.length : Int)), oo], bTr, rgG [oo, oo, oo, oo, opI (.ix (qaA x7)), oo, .op .ir, opI (.st (qaA x9) (((r38.set (t40.toNat) x2).set (t40.toNat) x7).map qaA))], .pre [.rl 8 0 ((r38.set (t40.toNat) x2).set (t40.toNat) x7).length, .keep [3,6,7,8,10,11,12,39,40] [38]]] hn (aC h1 <| aC (qd8 h3) <| aC (qa1 h5) <| aC (qcB h5 (by simp) : t40 < ((r38.length : Nat) : Int)) <| aC (qcA qaA h5 : (r38.map qaA)[(0 + t40.toNat)]? = some (qaA x4)) <| aC (qc4 _ _ x2 _ : (r38.map qaA).set (0 + t40.toNat) (qbW (qaA x4) 0 [(T.bool x2.Neg), (T.sl 1 (x2.Abs.map qaC))]) = (r38.set (t40.toNat) x2).map qaA) <| aC (Nat.zero_le _ : 0 ≤ (0 + t40.toNat)) <| aC (qaX f qaA) <| aC h6 <| aC (qa1 h8) <| aC (qbS qaA h8) <| aC (qa1 h10) <| aC (qcB h10 (by simp) : t40 < ((r38.length : Nat) : Int)) <| aC (qcA qaA h10 : ((r38.set (t40.toNat) x2).map qaA)[(0 + t40.toNat)]? = some (qaA x9)) <| aC (qc4 _ _ x7 _ : ((r38.set (t40.toNat) x2).map qaA).set (0 + t40.toNat) (qbW (qaA x9) 0 [(T.bool x7.Neg), (T.sl 1 (x7.Abs.map qaC))]) = ((r38.set (t40.toNat) x2).set (t40.toNat) x7).map qaA) <| aC (Nat.zero_le _ : 0 ≤ (0 + t40.toNat)) <| aC r0 <| aC (by simp : r38.length = ((r38.set (t40.toNat) x2).set (t40.toNat) x7).length) <| aN) (ih _ _ h cx hn)
  ·exact wkG [.go, rg1, bTr, rg2, rgG [oo, oo, opI (.call [[0]] [(TV.c (T.int .i64 (0 : Int)))] (TV.agg (qaA x2))), .op .ir, opI (.st (qaA x4) ((r38.set (t40.toNat) x2).map qaA))], rgG [oo, oo, opI (.ln (f.length : Int)), oo], bFa, .pre [.rl 8 0 (r38.set (t40.toNat) x2).length, .keep [3,6,7,8,10,11,12,39,40] [38]]] hn (aC h1 <| aC (qd8 h3) <| aC (qa1 h5) <| aC (qcB h5 (by simp) : t40 < ((r38.length : Nat) : Int)) <| aC (qcA qaA h5 : (r38.map qaA)[(0 + t40.toNat)]? = some (qaA x4)) <| aC (qc4 _ _ x2 _ : (r38.map qaA).set (0 + t40.toNat) (qbW (qaA x4) 0 [(T.bool x2.Neg), (T.sl 1 (x2.Abs.map qaC))]) = (r38.set (t40.toNat) x2).map qaA) <| aC (Nat.zero_le _ : 0 ≤ (0 + t40.toNat)) <| aC (qaX f qaA) <| aC h6 <| aC r0 <| aC (by simp : r38.length = (r38.set (t40.toNat) x2).length) <| aN) (ih _ _ h cx hn)
 ·obtain ⟨x2, h3, h⟩ := qaH h
  obtain ⟨x4, h5, h⟩ := qaH h
  exact wkG [.go, rg1, bFa, rgG [oo, oo, opI (.call [] [] (TV.agg (qaA x2))), .op .ir, opI (.st (qaA x4) ((r38.set (n.toNat) x2).map qaA))], rgG [oo, oo, .snap 64 (max 0 (0 + r38.length)) ((r38.set (n.toNat) x2).map qaA), opI (.lit (([(r38.set (n.toNat) x2)] : List (List qaB)).map qaD)), opI (.appN (([(r38.set (n.toNat) x2)] : List (List qaB)).map qaD)), oo], rg2, .pre [.rl 3 0 ([(r38.set (n.toNat) x2)] : List (List qaB)).length, .keep [3,10,11,12] [66]]] hn (aC h1 <| aC (ql8 h3) <| aC (qa1 h5) <| aC (qcB h5 (by simp) : n < ((r38.length : Nat) : Int)) <| aC (qcA qaA h5 : (r38.map qaA)[(0 + n.toNat)]? = some (qaA x4)) <| aC (qc4 _ _ x2 _ : (r38.map qaA).set (0 + n.toNat) (qbW (qaA x4) 0 [(T.bool x2.Neg), (T.sl 1 (x2.Abs.map qaC))]) = (r38.set (n.toNat) x2).map qaA) <| aC (Nat.zero_le _ : 0 ≤ (0 + n.toNat)) <| aC (qbJ _ _ _ (by simp) : (((r38.set (n.toNat) x2).map qaA).drop 0).take r38.length = (r38.set (n.toNat) x2).map qaA) <| aC (rfl : (max 0 (0 + r38.length)) = (max 0 (0 + r38.length))) <| aC (by kernel_rfl : [(T.sl 2 ((r38.set (n.toNat) x2).map qaA))] = (([(r38.set (n.toNat) x2)] : List (List qaB)).map qaD).flatten) <| aC (qbJ _ _ _ (by simp) : ((([(r38.set (n.toNat) x2)] : List (List qaB)).map qaD).drop 0).take 1 = ([(r38.set (n.toNat) x2)] : List (List qaB)).map qaD) <| aC (by simp : 0 < (([(r38.set (n.toNat) x2)] : List (List qaB)).map qaD).length) <| aC (by simp : (([(r38.set (n.toNat) x2)] : List (List qaB)).map qaD).length * 24 ≤ 140737488355328) <| aC (by simp [maxLen] : (([(r38.set (n.toNat) x2)] : List (List qaB)).map qaD).length ≤ maxLen) <| aC r0 <| aC (by simp : (([(r38.set (n.toNat) x2)] : List (List qaB)).map qaD).length = ([(r38.set (n.toNat) x2)] : List (List qaB)).length) <| aN) (ih _ _ h cx hn)
theorem q1E {K} (ih : qeJ K) {cx} (hn : cx.n = 69) {r38 f n t10 t11 t12 t39 t40} {r} (h : qaP (K + 1) (.c3 r38 f n t10 t11 t12 t39 t40) = some r) : qeI cx (.c3 r38 f n t10 t11 t12 t39 t40) r := by
 rw [qaP] at h
 exact wkG [rg2, .pre [.rl 8 0 r38.length, .keep [3,6,7,8,10,11,12,39,40] [38]]] hn (aC r0 <| aC (lq r38) <| aN) (ih _ _ h cx hn)
theorem q1D {K} (ih : qeJ K) {cx} (hn : cx.n = 69) {r66 t10 t11 t12} {r} (h : qaP (K + 1) (.c4 r66 t10 t11 t12) = some r) : qeI cx (.c4 r66 t10 t11 t12) r := by
 rw [qaP] at h
 rcases qaQ h with ⟨h1, h⟩ | ⟨h1, h⟩
 ·obtain ⟨x2, h3, h⟩ := qaH h
  obtain ⟨x4, h5, h⟩ := qaH h
  obtain ⟨h6, h⟩ := qbI h
  exact wkG [.go, rg1, bTr, rgG [oo, opI (.ix (qgV x2)), oo, oo, oo, oo], rgG [oo, oo, oo, oo, oo, oo, oo, oo, oo, opI (.lit (([(wI6 x2.e0), (wI6 x2.e1), (wI6 x2.e2)] : List Int).map qd4)), .snap 26 (max 0 (0 + 3)) (([(wI6 x2.e0), (wI6 x2.e1), (wI6 x2.e2)] : List Int).map qd4), opI (.call [[1]] [(TV.c (T.sl 1 (([(wI6 x2.e0), (wI6 x2.e1), (wI6 x2.e2)] : List Int).map qd4)))] (tl 2 x4 qaA)), oo], rgG [oo, oo, oo, oo, oo, oo, oo, oo, oo], rgG [oo, oo, opI (.mk (qaA (qaB.mk false [])) ((List.replicate (wI6 ((wI6 ((1 : Int) + (Int.tmod (wI6 (t12 + (wI6 (bits .and .i8 x2.e0 (1 : Int))))) (3 : Int)))) + (1 : Int))).toNat ((qaB.mk false []) : qaB)).map qaA)), oo], rg2, .pre [.rl 3 0 r66.length, .rl 8 0 (List.replicate (wI6 ((wI6 ((1 : Int) + (Int.tmod (wI6 (t12 + (wI6 (bits .and .i8 x2.e0 (1 : Int))))) (3 : Int)))) + (1 : Int))).toNat ((qaB.mk false []) : qaB)).length, .keep [3,6,7,8,10,11,12,39,40] [38,66]]] hn (aC h1 <| aC (qa1 h3) <| aC (qbS qgV h3) <| aC (by kernel_rfl : [(T.int .i64 (wI6 x2.e0)), (T.int .i64 (wI6 x2.e1)), (T.int .i64 (wI6 x2.e2))] = (([(wI6 x2.e0), (wI6 x2.e1), (wI6 x2.e2)] : List Int).map qd4).flatten) <| aC (qbJ _ _ _ (by simp) : ((([(wI6 x2.e0), (wI6 x2.e1), (wI6 x2.e2)] : List Int).map qd4).drop 0).take 3 = ([(wI6 x2.e0), (wI6 x2.e1), (wI6 x2.e2)] : List Int).map qd4) <| aC (rfl : (max 0 (0 + 3)) = (max 0 (0 + 3))) <| aC (qeM h5) <| aC h6.1 <| aC h6.2.1 <| aC h6.2.2 <| aC (qgM _ _ _ : List.replicate (wI6 ((wI6 ((1 : Int) + (Int.tmod (wI6 (t12 + (wI6 (bits .and .i8 x2.e0 (1 : Int))))) (3 : Int)))) + (1 : Int))).toNat (qaA (qaB.mk false [])) = (List.replicate (wI6 ((wI6 ((1 : Int) + (Int.tmod (wI6 (t12 + (wI6 (bits .and .i8 x2.e0 (1 : Int))))) (3 : Int)))) + (1 : Int))).toNat ((qaB.mk false []) : qaB)).map qaA) <| aC r0 <| aC (lq r66) <| aC r0 <| aC (by simp : (wI6 ((wI6 ((1 : Int) + (Int.tmod (wI6 (t12 + (wI6 (bits .and .i8 x2.e0 (1 : Int))))) (3 : Int)))) + (1 : Int))).toNat = (List.replicate (wI6 ((wI6 ((1 : Int) + (Int.tmod (wI6 (t12 + (wI6 (bits .and .i8 x2.e0 (1 : Int))))) (3 : Int)))) + (1 : Int))).toNat ((qaB.mk false []) : qaB)).length) <| aN) (ih _ _ h cx hn)
 ·have h := oinj h; subst h
  exact wkR [.go, rg1, bFa, rgG [oo, oo, .snap 2 (max 0 (0 + r66.length)) (r66.map qaD)]] hn (aC h1 <| aC (qbJ _ _ _ (by simp) : ((r66.map qaD).drop 0).take r66.length = r66.map qaD) <| aC (rfl : (max 0 (0 + r66.length)) = (max 0 (0 + r66.length))) <| aN)
theorem q1C {K} (ih : qeJ K) {cx} (hn : cx.n = 69) {r38 r66 f n t10 t11 t12 t39 t40} {r} (h : qaP (K + 1) (.c5 r38 r66 f n t10 t11 t12 t39 t40) = some r) : qeI cx (.c5 r38 r66 f n t10 t11 t12 t39 t40) r := by
 rw [qaP] at h
 rcases qaQ h with ⟨h1, h⟩ | ⟨h1, h⟩
 ·obtain ⟨x2, h3, h⟩ := qaH h
  obtain ⟨x4, h5, h⟩ := qaH h
  rcases qaQ h with ⟨h6, h⟩ | ⟨h6, h⟩
  ·obtain ⟨x7, h8, h⟩ := qaH h
   obtain ⟨x9, h10, h⟩ := qaH h
   exact wkG [.go, rg1, bTr, rg2, rgG [oo, oo, opI (.call [[0]] [(TV.c (T.int .i64 (0 : Int)))] (TV.agg (qaA x2))), .op .ir, opI (.st (qaA x4) ((r38.set (t40.toNat) x2).map qaA))], rgG [oo, oo, opI (.ln (f.length : Int)), oo], bTr, rgG [oo, oo, oo, oo, opI (.ix (qaA x7)), oo, .op .ir, opI (.st (qaA x9) (((r38.set (t40.toNat) x2).set (t40.toNat) x7).map qaA))], .pre [.rl 3 0 r66.length, .rl 8 0 ((r38.set (t40.toNat) x2).set (t40.toNat) x7).length, .keep [3,6,7,8,10,11,12,39,40] [38,66]]] hn (aC h1 <| aC (qd8 h3) <| aC (qa1 h5) <| aC (qcB h5 (by simp) : t40 < ((r38.length : Nat) : Int)) <| aC (qcA qaA h5 : (r38.map qaA)[(0 + t40.toNat)]? = some (qaA x4)) <| aC (qc4 _ _ x2 _ : (r38.map qaA).set (0 + t40.toNat) (qbW (qaA x4) 0 [(T.bool x2.Neg), (T.sl 1 (x2.Abs.map qaC))]) = (r38.set (t40.toNat) x2).map qaA) <| aC (Nat.zero_le _ : 0 ≤ (0 + t40.toNat)) <| aC (qaX f qaA) <| aC h6 <| aC (qa1 h8) <| aC (qbS qaA h8) <| aC (qa1 h10) <| aC (qcB h10 (by simp) : t40 < ((r38.length : Nat) : Int)) <| aC (qcA qaA h10 : ((r38.set (t40.toNat) x2).map qaA)[(0 + t40.toNat)]? = some (qaA x9)) <| aC (qc4 _ _ x7 _ : ((r38.set (t40.toNat) x2).map qaA).set (0 + t40.toNat) (qbW (qaA x9) 0 [(T.bool x7.Neg), (T.sl 1 (x7.Abs.map qaC))]) = ((r38.set (t40.toNat) x2).set (t40.toNat) x7).map qaA) <| aC (Nat.zero_le _ : 0 ≤ (0 + t40.toNat)) <| aC r0 <| aC (lq r66) <| aC r0 <| aC (by simp : r38.length = ((r38.set (t40.toNat) x2).set (t40.toNat) x7).length) <| aN) (ih _ _ h cx hn)
  ·exact wkG [.go, rg1, bTr, rg2, rgG [oo, oo, opI (.call [[0]] [(TV.c (T.int .i64 (0 : Int)))] (TV.agg (qaA x2))), .op .ir, opI (.st (qaA x4) ((r38.set (t40.toNat) x2).map qaA))], rgG [oo, oo, opI (.ln (f.length : Int)), oo], bFa, .pre [.rl 3 0 r66.length, .rl 8 0 (r38.set (t40.toNat) x2).length, .keep [3,6,7,8,10,11,12,39,40] [38,66]]] hn (aC h1 <| aC (qd8 h3) <| aC (qa1 h5) <| aC (qcB h5 (by simp) : t40 < ((r38.length : Nat) : Int)) <| aC (qcA qaA h5 : (r38.map qaA)[(0 + t40.toNat)]? = some (qaA x4)) <| aC (qc4 _ _ x2 _ : (r38.map qaA).set (0 + t40.toNat) (qbW (qaA x4) 0 [(T.bool x2.Neg), (T.sl 1 (x2.Abs.map qaC))]) = (r38.set (t40.toNat) x2).map qaA) <| aC (Nat.zero_le _ : 0 ≤ (0 + t40.toNat)) <| aC (qaX f qaA) <| aC h6 <| aC r0 <| aC (lq r66) <| aC r0 <| aC (by simp : r38.length = (r38.set (t40.toNat) x2).length) <| aN) (ih _ _ h cx hn)
 ·obtain ⟨x2, h3, h⟩ := qaH h
  obtain ⟨x4, h5, h⟩ := qaH h
  obtain ⟨h6, h⟩ := qbI h
  exact wkG [.go, rg1, bFa, rgG [oo, oo, opI (.call [] [] (TV.agg (qaA x2))), .op .ir, opI (.st (qaA x4) ((r38.set (n.toNat) x2).map qaA))], .pre [.keep [3,8,10,11,12] [38,66]], rgG [oo, oo, .snap 64 (max 0 (0 + r38.length)) ((r38.set (n.toNat) x2).map qaA), opI (.lit (([(r38.set (n.toNat) x2)] : List (List qaB)).map qaD)), .appR (([(r38.set (n.toNat) x2)] : List (List qaB)).map qaD) ((r66 ++ ([(r38.set (n.toNat) x2)] : List (List qaB))).map qaD), oo], rg2, .pre [.rl 3 0 (r66 ++ ([(r38.set (n.toNat) x2)] : List (List qaB))).length, .keep [3,10,11,12] [66]]] hn (aC h1 <| aC (ql8 h3) <| aC (qa1 h5) <| aC (qcB h5 (by simp) : n < ((r38.length : Nat) : Int)) <| aC (qcA qaA h5 : (r38.map qaA)[(0 + n.toNat)]? = some (qaA x4)) <| aC (qc4 _ _ x2 _ : (r38.map qaA).set (0 + n.toNat) (qbW (qaA x4) 0 [(T.bool x2.Neg), (T.sl 1 (x2.Abs.map qaC))]) = (r38.set (n.toNat) x2).map qaA) <| aC (Nat.zero_le _ : 0 ≤ (0 + n.toNat)) <| aC (qbJ _ _ _ (by simp) : (((r38.set (n.toNat) x2).map qaA).drop 0).take r38.length = (r38.set (n.toNat) x2).map qaA) <| aC (rfl : (max 0 (0 + r38.length)) = (max 0 (0 + r38.length))) <| aC (by kernel_rfl : [(T.sl 2 ((r38.set (n.toNat) x2).map qaA))] = (([(r38.set (n.toNat) x2)] : List (List qaB)).map qaD).flatten) <| aC (by simp : r66.length = (r66.map qaD).length) <| aC (qbJ _ _ _ (by simp) : ((([(r38.set (n.toNat) x2)] : List (List qaB)).map qaD).drop 0).take 1 = ([(r38.set (n.toNat) x2)] : List (List qaB)).map qaD) <| aC (qs5 _ _ _ : r66.map qaD ++ ([(r38.set (n.toNat) x2)] : List (List qaB)).map qaD = (r66 ++ ([(r38.set (n.toNat) x2)] : List (List qaB))).map qaD) <| aC ((qeF _ _).symm ▸ h6 : ((r66 ++ ([(r38.set (n.toNat) x2)] : List (List qaB))).map qaD).length * 24 ≤ 140737488355328) <| aC ((qeF _ _).symm ▸ room (by decide) h6 : ((r66 ++ ([(r38.set (n.toNat) x2)] : List (List qaB))).map qaD).length ≤ maxLen) <| aC r0 <| aC (by simp : ((r66 ++ ([(r38.set (n.toNat) x2)] : List (List qaB))).map qaD).length = (r66 ++ ([(r38.set (n.toNat) x2)] : List (List qaB))).length) <| aN) (ih _ _ h cx hn)
theorem q1B {K} (ih : qeJ K) {cx} (hn : cx.n = 69) {r38 r66 f n t10 t11 t12 t39 t40} {r} (h : qaP (K + 1) (.c6 r38 r66 f n t10 t11 t12 t39 t40) = some r) : qeI cx (.c6 r38 r66 f n t10 t11 t12 t39 t40) r := by
 rw [qaP] at h
 exact wkG [rg2, .pre [.rl 3 0 r66.length, .rl 8 0 r38.length, .keep [3,6,7,8,10,11,12,39,40] [38,66]]] hn (aC r0 <| aC (lq r66) <| aC r0 <| aC (lq r38) <| aN) (ih _ _ h cx hn)
theorem qd3 : ∀ K : Nat, qeJ K
 | 0, c, r, h => by rw [qaP] at h; cases h
 | K + 1, .c0 .., r, h => fun cx hn => q1H (qd3 K) hn h
 | K + 1, .c1 .., r, h => fun cx hn => q1G (qd3 K) hn h
 | K + 1, .c2 .., r, h => fun cx hn => q1F (qd3 K) hn h
 | K + 1, .c3 .., r, h => fun cx hn => q1E (qd3 K) hn h
 | K + 1, .c4 .., r, h => fun cx hn => q1D (qd3 K) hn h
 | K + 1, .c5 .., r, h => fun cx hn => q1C (qd3 K) hn h
 | K + 1, .c6 .., r, h => fun cx hn => q1B (qd3 K) hn h
theorem qx5 {K : Nat} {l : (List qyA)} {r : (List (List qaB))} (h : qkP K l = some r) : qc5 prog 59 [(tl 3 l qgV)] (tl 1 r qaD) :=
 qa0 [[1]] (by kernel_rfl) (by simp) fun cx hn => qd3 K (.c0 l) r h cx hn
open Go.Proofs.Try (prog)
inductive qfW where
 | c0 (c : qaB) (l : (List qyA)) (n : Int)
 | c1 (c : qaB) (height : qaB) (p : Int) (f : (List qaB)) (factors : (List (List qaB))) (t41 : (List (List qaB))) (t42 : Int) (t43 : Int)
 | c2 (c : qaB) (height : qaB) (r55 : (List (List Int))) (p : Int) (f : (List qaB)) (factors : (List (List qaB))) (t41 : (List (List qaB))) (t42 : Int) (t43 : Int)
 | c3 (factors : (List (List qaB))) (got : (List (List qaB)))
 | c4 (c : qaB) (height : qaB) (r55 : (List (List Int))) (p : Int) (f : (List qaB)) (factors : (List (List qaB))) (t41 : (List (List qaB))) (t42 : Int) (t43 : Int)
 | c5 (got : (List (List qaB))) (t112 : (List (List qaB))) (t113 : Int) (t114 : Int)
def qaM : Nat → qfW → Option Bool
 | 0, _ => none
 | K + 1, .c0 c l n =>
  (qi9 K ).bind fun x1 =>
  bif (!x1) then
   some false
  else
   bif (decide ((4 : Int) < (l.length : Int))) then
    some true
   else
    bif (decide ((4 : Int) < (c.Abs.length : Int))) then
     some true
    else
     (ql9 K n).bind fun x6 =>
     (qiV K ([(1 : Int)] : List Int)).bind fun x8 =>
     (qeK K x8 c).bind fun x10 =>
     (qkP K l).bind fun x12 =>
     qaM K (.c1 c (qaB.mk false []) x6 x10 x12 x12 (x12.length : Int) (0 : Int))
 | K + 1, .c1 c height p f factors t41 t42 t43 =>
  bif (decide (t43 < t42)) then
   (gi t41 t43).bind fun x2 =>
   (qlN K f x2).bind fun x4 =>
   (qhF K x2 p).bind fun x6 =>
   (qmI K x2).bind fun x9 =>
   (qg9 K x9 height).bind fun x11 =>
   bif (decide ((0 : Int) < x11)) then
    qaM K (.c2 c x9 ([x6] : List (List Int)) p x4 factors t41 t42 t43)
   else
    qaM K (.c2 c height ([x6] : List (List Int)) p x4 factors t41 t42 t43)
  else
   (qgR K height p).bind fun x2 =>
   (qjF K f [] p x2.1).bind fun x4 =>
   (qgJ K [] p).bind fun x6 =>
   bif (!x6) then
    bif (decide (x4.2 = (5 : Int))) then
     some (decide ((x4.1.length : Int) = (0 : Int)))
    else
     some false
   else
    (qdQ K c p).bind fun x9 =>
    bif (decide (x9 = (0 : Int))) then
     bif (decide (x4.2 = (3 : Int))) then
      some (decide ((x4.1.length : Int) = (0 : Int)))
     else
      some false
    else
     bif (!decide (x4.2 = (0 : Int))) then
      some false
     else
      bif (!decide ((x4.1.length : Int) = (factors.length : Int))) then
       some false
      else
       qaM K (.c3 factors x4.1)
 | K + 1, .c2 c height r55 p f factors t41 t42 t43 =>
  qaM K (.c4 c height r55 p f factors t41 t42 (wI6 (t43 + (1 : Int))))
 | K + 1, .c3 factors got =>
  qaM K (.c5 got factors (factors.length : Int) (0 : Int))
 | K + 1, .c4 c height r55 p f factors t41 t42 t43 =>
  bif (decide (t43 < t42)) then
   (gi t41 t43).bind fun x2 =>
   (qlN K f x2).bind fun x4 =>
   (qhF K x2 p).bind fun x6 =>
   gd ((r55 ++ ([x6] : List (List Int))).length * 24 ≤ 140737488355328) <|
   (qmI K x2).bind fun x9 =>
   (qg9 K x9 height).bind fun x11 =>
   bif (decide ((0 : Int) < x11)) then
    qaM K (.c2 c x9 (r55 ++ ([x6] : List (List Int))) p x4 factors t41 t42 t43)
   else
    qaM K (.c2 c height (r55 ++ ([x6] : List (List Int))) p x4 factors t41 t42 t43)
  else
   (qgR K height p).bind fun x2 =>
   (qjF K f r55 p x2.1).bind fun x4 =>
   (qgJ K r55 p).bind fun x6 =>
   bif (!x6) then
    bif (decide (x4.2 = (5 : Int))) then
     some (decide ((x4.1.length : Int) = (0 : Int)))
    else
     some false
   else
    (qdQ K c p).bind fun x9 =>
    bif (decide (x9 = (0 : Int))) then
     bif (decide (x4.2 = (3 : Int))) then
      some (decide ((x4.1.length : Int) = (0 : Int)))
     else
      some false
    else
     bif (!decide (x4.2 = (0 : Int))) then
      some false
     else
      bif (!decide ((x4.1.length : Int) = (factors.length : Int))) then
       some false
      else
       qaM K (.c3 factors x4.1)
 | K + 1, .c5 got t112 t113 t114 =>
  bif (decide (t114 < t113)) then
   (gi t112 t114).bind fun x2 =>
   (gi got t114).bind fun x4 =>
   (qq9 K x4 x2).bind fun x6 =>
   bif (!x6) then
    some false
   else
    qaM K (.c5 got t112 t113 (wI6 (t114 + (1 : Int))))
  else
   some true
def qjJ (K : Nat) (c : qaB) (l : (List qyA)) (n : Int) : Option Bool := qaM K (.c0 c l n)
noncomputable def qa9 : Code := qbQ prog 11
noncomputable def qt5 : qfW → List Fr
 | .c0 .. => [.code qa9]
 | .c1 .. => [.code (.loop (atC qa9 [1,1,1,1,1,1,1,1,0,1,0,0])), .blk 0, .code (atC qa9 [1,1,1,1,1,1,1,1,1])]
 | .c2 .. => [.code (atC qa9 [1,1,1,1,1,1,1,1,0,1,0,0,1,1,1]), .lp (atC qa9 [1,1,1,1,1,1,1,1,0,1,0,0]), .blk 0, .code (atC qa9 [1,1,1,1,1,1,1,1,1])]
 | .c3 .. => [.code (atC qa9 [1,1,1,1,1,1,1,1,1,1,1,1,0,0]), .code (atC qa9 [1,1,1,1,1,1,1,1,1,1,1,1,0,1]), .code (atC qa9 [1,1,1,1,1,1,1,1,1,1,1,1,1])]
 | .c4 .. => [.code (.loop (atC qa9 [1,1,1,1,1,1,1,1,0,1,0,0])), .blk 0, .code (atC qa9 [1,1,1,1,1,1,1,1,1])]
 | .c5 .. => [.code (.loop (atC qa9 [1,1,1,1,1,1,1,1,1,1,1,1,0,1,0,0])), .blk 3, .code (atC qa9 [1,1,1,1,1,1,1,1,1,1,1,1,1])]
def qu2 : qfW → St
 | .c0 c l n => St.init [(TV.agg (qaA c)), (tl 3 l qgV), (ti .u8 n)]
 | .c1 c height p f factors t41 t42 t43 => ⟨[(3, .c (C.ptr 3 0)), (7, vi .u32 p), (8, vl 2 f qaA), (9, .c (C.ptr 9 0)), (10, .c (C.nil)), (11, vl 1 factors qaD), (41, vl 1 t41 qaD), (42, vi .i64 t42), (43, vi .i64 t43)], [(3, .var ((qaA c).map C.t)), (9, .var ((qaA height).map C.t))], []⟩
 | .c2 c height r55 p f factors t41 t42 t43 => ⟨[(3, .c (C.ptr 3 0)), (7, vi .u32 p), (8, vl 2 f qaA), (9, .c (C.ptr 9 0)), (10, .c (C.row 55 0 r55.length)), (11, vl 1 factors qaD), (41, vl 1 t41 qaD), (42, vi .i64 t42), (43, vi .i64 t43)], [(3, .var ((qaA c).map C.t)), (9, .var ((qaA height).map C.t)), (55, .row 114 1 (r55.map qaF) 0)], []⟩
 | .c3 factors got => ⟨[(11, vl 1 factors qaD), (17, vl 1 got qaD)], [], []⟩
 | .c4 c height r55 p f factors t41 t42 t43 => ⟨[(3, .c (C.ptr 3 0)), (7, vi .u32 p), (8, vl 2 f qaA), (9, .c (C.ptr 9 0)), (10, .c (C.row 55 0 r55.length)), (11, vl 1 factors qaD), (41, vl 1 t41 qaD), (42, vi .i64 t42), (43, vi .i64 t43)], [(3, .var ((qaA c).map C.t)), (9, .var ((qaA height).map C.t)), (55, .row 114 1 (r55.map qaF) 0)], []⟩
 | .c5 got t112 t113 t114 => ⟨[(17, vl 1 got qaD), (112, vl 1 t112 qaD), (113, vi .i64 t113), (114, vi .i64 t114)], [], []⟩
def qdM (cx : Cx) (c : qfW) (r : Bool) : Prop := Wk prog cx (qc2 prog 11 [[0]] (TV.c (T.bool r))) (qt5 c) .normal (qu2 c)
abbrev qdN (K : Nat) : Prop := ∀ c r, qaM K c = some r → ∀ cx : Cx, cx.n = 127 → qdM cx c r
theorem qu8 {K} (ih : qdN K) {cx} (hn : cx.n = 127) {c l n} {r} (h : qaM (K + 1) (.c0 c l n) = some r) : qdM cx (.c0 c l n) r := by
 rw [qaM] at h
 obtain ⟨x1, h2, h⟩ := qaH h
 rcases qaQ h with ⟨h3, h⟩ | ⟨h3, h⟩
 ·have h := oinj h; subst h
  exact wkR [rg2, rgG [opI (.call [] [] (TV.c (T.bool x1))), oo], bTr, rg1] hn (aC (qaW h2) <| aC h3 <| aN)
 ·rcases qaQ h with ⟨h4, h⟩ | ⟨h4, h⟩
  ·have h := oinj h; subst h
   exact wkR [rg2, rgG [opI (.call [] [] (TV.c (T.bool x1))), oo], bFa, rgG [oo, opI (.ln (l.length : Int)), oo, oo, .sb 26 true, oo, oo, oo, oo, oo], bTr, rg1] hn (aC (qaW h2) <| aC h3 <| aC (qaX l qgV) <| aC h4 <| aC rt <| aN)
  ·rcases qaQ h with ⟨h5, h⟩ | ⟨h5, h⟩
   ·have h := oinj h; subst h
    exact wkR [rg2, rgG [opI (.call [] [] (TV.c (T.bool x1))), oo], bFa, rgG [oo, opI (.ln (l.length : Int)), oo, oo, .sb 26 false, oo, oo, opI (.ln (c.Abs.length : Int)), oo, oo], bTr, rg1] hn (aC (qaW h2) <| aC h3 <| aC (qaX l qgV) <| aC h4 <| aC (qaX c.Abs qaC) <| aC h5 <| aN)
   ·obtain ⟨x6, h7, h⟩ := qaH h
    obtain ⟨x8, h9, h⟩ := qaH h
    obtain ⟨x10, h11, h⟩ := qaH h
    obtain ⟨x12, h13, h⟩ := qaH h
    exact wkG [rg2, rgG [opI (.call [] [] (TV.c (T.bool x1))), oo], bFa, rgG [oo, opI (.ln (l.length : Int)), oo, oo, .sb 26 false, oo, oo, opI (.ln (c.Abs.length : Int)), oo, oo], bFa, rgG [oo, opI (.call [[0]] [(ti .u8 n)] (ti .u32 x6)), oo], .draw [(.litT (([(1 : Int)] : List Int).map qd4)), (.call [[1]] [(TV.c (T.sl 1 (([(1 : Int)] : List Int).map qd4)))] (tl 2 x8 qaA)), .p] [opI (.call [[2], [0,1]] [(tl 2 x8 qaA), (TV.agg (qaA c))] (tl 2 x10 qaA)), .op .p], rg3, rg1, rgG [oo, opI (.call [[3]] [(tl 3 l qgV)] (tl 1 x12 qaD)), oo], rgG [oo, opI (.ln (x12.length : Int)), oo], .pre [.tellB 9 [0,1], .keep [3,7,8,9,10,11,41,42,43] [3,9]]] hn (aC (qaW h2) <| aC h3 <| aC (qaX l qgV) <| aC h4 <| aC (qaX c.Abs qaC) <| aC h5 <| aC (qy8 h7) <| aC (by kernel_rfl : [(T.int .i64 (1 : Int))] = (([(1 : Int)] : List Int).map qd4).flatten) <| aC (qeM h9) <| aC (qd1 h11) <| aC (qx5 h13) <| aC (qaX x12 qaD) <| aN) (ih _ _ h cx hn)
theorem qu7 {K} (ih : qdN K) {cx} (hn : cx.n = 127) {c height p f factors t41 t42 t43} {r} (h : qaM (K + 1) (.c1 c height p f factors t41 t42 t43) = some r) : qdM cx (.c1 c height p f factors t41 t42 t43) r := by
 rw [qaM] at h
 rcases qaQ h with ⟨h1, h⟩ | ⟨h1, h⟩
 ·obtain ⟨x2, h3, h⟩ := qaH h
  obtain ⟨x4, h5, h⟩ := qaH h
  obtain ⟨x6, h7, h⟩ := qaH h
  obtain ⟨x9, h10, h⟩ := qaH h
  obtain ⟨x11, h12, h⟩ := qaH h
  rcases qaQ h with ⟨h13, h⟩ | ⟨h13, h⟩
  ·exact wkG [.go, rg1, bTr, rgG [opI (.ix (qaD x2)), oo, oo], rgG [oo, oo, opI (.call [[2], [2]] [(tl 2 f qaA), (tl 2 x2 qaA)] (tl 2 x4 qaA)), oo], rgG [oo, oo, oo, opI (.call [[2], [0]] [(tl 2 x2 qaA), (ti .u32 p)] (tl 1 x6 qaC)), opI (.lit (([x6] : List (List Int)).map qaF)), opI (.appN (([x6] : List (List Int)).map qaF)), oo], rgG [oo, opI (.call [[2]] [(tl 2 x2 qaA)] (TV.agg (qaA x9))), oo, oo], rgG [oo, oo, opI (.call [[0,1], [0,1]] [(TV.agg (qaA x9)), (TV.agg (qaA height))] (ti .i64 x11)), oo], bTr, rg2, .pre [.rl 10 0 ([x6] : List (List Int)).length, .keep [3,7,8,9,10,11,41,42,43] [3,9,55]]] hn (aC h1 <| aC (qa1 h3) <| aC (qbS qaD h3) <| aC (qfS h5) <| aC (qfC h7) <| aC (by kernel_rfl : [(T.sl 1 (x6.map qaC))] = (([x6] : List (List Int)).map qaF).flatten) <| aC (qbJ _ _ _ (by simp) : ((([x6] : List (List Int)).map qaF).drop 0).take 1 = ([x6] : List (List Int)).map qaF) <| aC (by simp : 0 < (([x6] : List (List Int)).map qaF).length) <| aC (by simp : (([x6] : List (List Int)).map qaF).length * 24 ≤ 140737488355328) <| aC (by simp [maxLen] : (([x6] : List (List Int)).map qaF).length ≤ maxLen) <| aC (qkH h10) <| aC (qdA h12) <| aC h13 <| aC r0 <| aC (by simp : (([x6] : List (List Int)).map qaF).length = ([x6] : List (List Int)).length) <| aN) (ih _ _ h cx hn)
  ·exact wkG [.go, rg1, bTr, rgG [opI (.ix (qaD x2)), oo, oo], rgG [oo, oo, opI (.call [[2], [2]] [(tl 2 f qaA), (tl 2 x2 qaA)] (tl 2 x4 qaA)), oo], rgG [oo, oo, oo, opI (.call [[2], [0]] [(tl 2 x2 qaA), (ti .u32 p)] (tl 1 x6 qaC)), opI (.lit (([x6] : List (List Int)).map qaF)), opI (.appN (([x6] : List (List Int)).map qaF)), oo], rgG [oo, opI (.call [[2]] [(tl 2 x2 qaA)] (TV.agg (qaA x9))), oo, oo], rgG [oo, oo, opI (.call [[0,1], [0,1]] [(TV.agg (qaA x9)), (TV.agg (qaA height))] (ti .i64 x11)), oo], bFa, .pre [.rl 10 0 ([x6] : List (List Int)).length, .keep [3,7,8,9,10,11,41,42,43] [3,9,55]]] hn (aC h1 <| aC (qa1 h3) <| aC (qbS qaD h3) <| aC (qfS h5) <| aC (qfC h7) <| aC (by kernel_rfl : [(T.sl 1 (x6.map qaC))] = (([x6] : List (List Int)).map qaF).flatten) <| aC (qbJ _ _ _ (by simp) : ((([x6] : List (List Int)).map qaF).drop 0).take 1 = ([x6] : List (List Int)).map qaF) <| aC (by simp : 0 < (([x6] : List (List Int)).map qaF).length) <| aC (by simp : (([x6] : List (List Int)).map qaF).length * 24 ≤ 140737488355328) <| aC (by simp [maxLen] : (([x6] : List (List Int)).map qaF).length ≤ maxLen) <| aC (qkH h10) <| aC (qdA h12) <| aC h13 <| aC r0 <| aC (by simp : (([x6] : List (List Int)).map qaF).length = ([x6] : List (List Int)).length) <| aN) (ih _ _ h cx hn)
 ·obtain ⟨x2, h3, h⟩ := qaH h
  obtain ⟨x4, h5, h⟩ := qaH h
  obtain ⟨x6, h7, h⟩ := qaH h
  rcases qaQ h with ⟨h8, h⟩ | ⟨h8, h⟩
  ·rcases qaQ h with ⟨h9, h⟩ | ⟨h9, h⟩
   ·have h := oinj h; subst h
    exact wkR [.go, rg1, bFa, rgG [oo, oo, opI (.call [[0,1], [0]] [(TV.agg (qaA height)), (ti .u32 p)] (TV.tup [(false, [(T.int .i64 x2.1)]), (false, [(T.int .i64 x2.2)])])), oo, oo, oo, oo, oo], rgG [oo, oo, oo, oo, opI (.call [[2], [1], [0], [0]] [(tl 2 f qaA), (TV.c (T.sl 1 ([].map qaF))), (ti .u32 p), (ti .i64 x2.1)] (TV.tup [(false, [(T.sl 1 (x4.1.map qaD))]), (false, [(T.int .i64 x4.2)])])), oo, oo, oo, oo, oo], rgG [oo, oo, opI (.call [[1], [0]] [(TV.c (T.sl 1 ([].map qaF))), (ti .u32 p)] (TV.c (T.bool x6))), oo, oo], bTr, rgG [oo, oo, oo, .sb 85 true, oo, opI (.ln (x4.1.length : Int)), oo, oo, oo]] hn (aC h1 <| aC (qa7 h3) <| aC (qcG h5) <| aC (qbO h7) <| aC h8 <| aC h9 <| aC (qaX x4.1 qaD) <| aN)
   ·have h := oinj h; subst h
    exact wkR [.go, rg1, bFa, rgG [oo, oo, opI (.call [[0,1], [0]] [(TV.agg (qaA height)), (ti .u32 p)] (TV.tup [(false, [(T.int .i64 x2.1)]), (false, [(T.int .i64 x2.2)])])), oo, oo, oo, oo, oo], rgG [oo, oo, oo, oo, opI (.call [[2], [1], [0], [0]] [(tl 2 f qaA), (TV.c (T.sl 1 ([].map qaF))), (ti .u32 p), (ti .i64 x2.1)] (TV.tup [(false, [(T.sl 1 (x4.1.map qaD))]), (false, [(T.int .i64 x4.2)])])), oo, oo, oo, oo, oo], rgG [oo, oo, opI (.call [[1], [0]] [(TV.c (T.sl 1 ([].map qaF))), (ti .u32 p)] (TV.c (T.bool x6))), oo, oo], bTr, rgG [oo, oo, oo, .sb 85 false, oo, oo, oo, oo, oo]] hn (aC h1 <| aC (qa7 h3) <| aC (qcG h5) <| aC (qbO h7) <| aC h8 <| aC h9 <| aN)
  ·obtain ⟨x9, h10, h⟩ := qaH h
   rcases qaQ h with ⟨h11, h⟩ | ⟨h11, h⟩
   ·rcases qaQ h with ⟨h12, h⟩ | ⟨h12, h⟩
    ·have h := oinj h; subst h
     exact wkR [.go, rg1, bFa, rgG [oo, oo, opI (.call [[0,1], [0]] [(TV.agg (qaA height)), (ti .u32 p)] (TV.tup [(false, [(T.int .i64 x2.1)]), (false, [(T.int .i64 x2.2)])])), oo, oo, oo, oo, oo], rgG [oo, oo, oo, oo, opI (.call [[2], [1], [0], [0]] [(tl 2 f qaA), (TV.c (T.sl 1 ([].map qaF))), (ti .u32 p), (ti .i64 x2.1)] (TV.tup [(false, [(T.sl 1 (x4.1.map qaD))]), (false, [(T.int .i64 x4.2)])])), oo, oo, oo, oo, oo], rgG [oo, oo, opI (.call [[1], [0]] [(TV.c (T.sl 1 ([].map qaF))), (ti .u32 p)] (TV.c (T.bool x6))), oo, oo], bFa, rgG [oo, oo, opI (.call [[0,1], [0]] [(TV.agg (qaA c)), (ti .u32 p)] (ti .u32 x9)), oo, oo], bTr, rgG [oo, oo, oo, .sb 97 true, oo, opI (.ln (x4.1.length : Int)), oo, oo, oo]] hn (aC h1 <| aC (qa7 h3) <| aC (qcG h5) <| aC (qbO h7) <| aC h8 <| aC (qa8 h10) <| aC h11 <| aC h12 <| aC (qaX x4.1 qaD) <| aN)
    ·have h := oinj h; subst h
     exact wkR [.go, rg1, bFa, rgG [oo, oo, opI (.call [[0,1], [0]] [(TV.agg (qaA height)), (ti .u32 p)] (TV.tup [(false, [(T.int .i64 x2.1)]), (false, [(T.int .i64 x2.2)])])), oo, oo, oo, oo, oo], rgG [oo, oo, oo, oo, opI (.call [[2], [1], [0], [0]] [(tl 2 f qaA), (TV.c (T.sl 1 ([].map qaF))), (ti .u32 p), (ti .i64 x2.1)] (TV.tup [(false, [(T.sl 1 (x4.1.map qaD))]), (false, [(T.int .i64 x4.2)])])), oo, oo, oo, oo, oo], rgG [oo, oo, opI (.call [[1], [0]] [(TV.c (T.sl 1 ([].map qaF))), (ti .u32 p)] (TV.c (T.bool x6))), oo, oo], bFa, rgG [oo, oo, opI (.call [[0,1], [0]] [(TV.agg (qaA c)), (ti .u32 p)] (ti .u32 x9)), oo, oo], bTr, rgG [oo, oo, oo, .sb 97 false, oo, oo, oo, oo, oo]] hn (aC h1 <| aC (qa7 h3) <| aC (qcG h5) <| aC (qbO h7) <| aC h8 <| aC (qa8 h10) <| aC h11 <| aC h12 <| aN)
   ·rcases qaQ h with ⟨h12, h⟩ | ⟨h12, h⟩
    ·have h := oinj h; subst h
     exact wkR [.go, rg1, bFa, rgG [oo, oo, opI (.call [[0,1], [0]] [(TV.agg (qaA height)), (ti .u32 p)] (TV.tup [(false, [(T.int .i64 x2.1)]), (false, [(T.int .i64 x2.2)])])), oo, oo, oo, oo, oo], rgG [oo, oo, oo, oo, opI (.call [[2], [1], [0], [0]] [(tl 2 f qaA), (TV.c (T.sl 1 ([].map qaF))), (ti .u32 p), (ti .i64 x2.1)] (TV.tup [(false, [(T.sl 1 (x4.1.map qaD))]), (false, [(T.int .i64 x4.2)])])), oo, oo, oo, oo, oo], rgG [oo, oo, opI (.call [[1], [0]] [(TV.c (T.sl 1 ([].map qaF))), (ti .u32 p)] (TV.c (T.bool x6))), oo, oo], bFa, rgG [oo, oo, opI (.call [[0,1], [0]] [(TV.agg (qaA c)), (ti .u32 p)] (ti .u32 x9)), oo, oo], bFa, rgG [oo, oo, oo, .sb 105 true, oo, oo, oo, oo, oo, oo, oo], bTr, rg1] hn (aC h1 <| aC (qa7 h3) <| aC (qcG h5) <| aC (qbO h7) <| aC h8 <| aC (qa8 h10) <| aC h11 <| aC h12 <| aC rt <| aN)
    ·rcases qaQ h with ⟨h13, h⟩ | ⟨h13, h⟩
     ·have h := oinj h; subst h
      exact wkR [.go, rg1, bFa, rgG [oo, oo, opI (.call [[0,1], [0]] [(TV.agg (qaA height)), (ti .u32 p)] (TV.tup [(false, [(T.int .i64 x2.1)]), (false, [(T.int .i64 x2.2)])])), oo, oo, oo, oo, oo], rgG [oo, oo, oo, oo, opI (.call [[2], [1], [0], [0]] [(tl 2 f qaA), (TV.c (T.sl 1 ([].map qaF))), (ti .u32 p), (ti .i64 x2.1)] (TV.tup [(false, [(T.sl 1 (x4.1.map qaD))]), (false, [(T.int .i64 x4.2)])])), oo, oo, oo, oo, oo], rgG [oo, oo, opI (.call [[1], [0]] [(TV.c (T.sl 1 ([].map qaF))), (ti .u32 p)] (TV.c (T.bool x6))), oo, oo], bFa, rgG [oo, oo, opI (.call [[0,1], [0]] [(TV.agg (qaA c)), (ti .u32 p)] (ti .u32 x9)), oo, oo], bFa, rgG [oo, oo, oo, .sb 105 false, oo, opI (.ln (x4.1.length : Int)), oo, opI (.ln (factors.length : Int)), oo, oo, oo], bTr, rg1] hn (aC h1 <| aC (qa7 h3) <| aC (qcG h5) <| aC (qbO h7) <| aC h8 <| aC (qa8 h10) <| aC h11 <| aC h12 <| aC (qaX x4.1 qaD) <| aC (qaX factors qaD) <| aC h13 <| aN)
     ·exact wkG [.go, rg1, bFa, rgG [oo, oo, opI (.call [[0,1], [0]] [(TV.agg (qaA height)), (ti .u32 p)] (TV.tup [(false, [(T.int .i64 x2.1)]), (false, [(T.int .i64 x2.2)])])), oo, oo, oo, oo, oo], rgG [oo, oo, oo, oo, opI (.call [[2], [1], [0], [0]] [(tl 2 f qaA), (TV.c (T.sl 1 ([].map qaF))), (ti .u32 p), (ti .i64 x2.1)] (TV.tup [(false, [(T.sl 1 (x4.1.map qaD))]), (false, [(T.int .i64 x4.2)])])), oo, oo, oo, oo, oo], rgG [oo, oo, opI (.call [[1], [0]] [(TV.c (T.sl 1 ([].map qaF))), (ti .u32 p)] (TV.c (T.bool x6))), oo, oo], bFa, rgG [oo, oo, opI (.call [[0,1], [0]] [(TV.agg (qaA c)), (ti .u32 p)] (ti .u32 x9)), oo, oo], bFa, rgG [oo, oo, oo, .sb 105 false, oo, opI (.ln (x4.1.length : Int)), oo, opI (.ln (factors.length : Int)), oo, oo, oo], bFa, .pre [.keep [11,17] []]] hn (aC h1 <| aC (qa7 h3) <| aC (qcG h5) <| aC (qbO h7) <| aC h8 <| aC (qa8 h10) <| aC h11 <| aC h12 <| aC (qaX x4.1 qaD) <| aC (qaX factors qaD) <| aC h13 <| aN) (ih _ _ h cx hn)
theorem qu6 {K} (ih : qdN K) {cx} (hn : cx.n = 127) {c height r55 p f factors t41 t42 t43} {r} (h : qaM (K + 1) (.c2 c height r55 p f factors t41 t42 t43) = some r) : qdM cx (.c2 c height r55 p f factors t41 t42 t43) r := by
 rw [qaM] at h
 exact wkG [rg2, .pre [.rl 10 0 r55.length, .keep [3,7,8,9,10,11,41,42,43] [3,9,55]]] hn (aC r0 <| aC (lq r55) <| aN) (ih _ _ h cx hn)
theorem qu5 {K} (ih : qdN K) {cx} (hn : cx.n = 127) {factors got} {r} (h : qaM (K + 1) (.c3 factors got) = some r) : qdM cx (.c3 factors got) r := by
 rw [qaM] at h
 exact wkG [rgG [oo, opI (.ln (factors.length : Int)), oo], .pre [.keep [17,112,113,114] []]] hn (aC (qaX factors qaD) <| aN) (ih _ _ h cx hn)
theorem qu4 {K} (ih : qdN K) {cx} (hn : cx.n = 127) {c height r55 p f factors t41 t42 t43} {r} (h : qaM (K + 1) (.c4 c height r55 p f factors t41 t42 t43) = some r) : qdM cx (.c4 c height r55 p f factors t41 t42 t43) r := by
 rw [qaM] at h
 rcases qaQ h with ⟨h1, h⟩ | ⟨h1, h⟩
 ·obtain ⟨x2, h3, h⟩ := qaH h
  obtain ⟨x4, h5, h⟩ := qaH h
  obtain ⟨x6, h7, h⟩ := qaH h
  obtain ⟨h8, h⟩ := qbI h
  obtain ⟨x9, h10, h⟩ := qaH h
  obtain ⟨x11, h12, h⟩ := qaH h
  rcases qaQ h with ⟨h13, h⟩ | ⟨h13, h⟩
  ·exact wkG [.go, rg1, bTr, rgG [opI (.ix (qaD x2)), oo, oo], rgG [oo, oo, opI (.call [[2], [2]] [(tl 2 f qaA), (tl 2 x2 qaA)] (tl 2 x4 qaA)), oo], .pre [.keep [3,7,8,9,10,11,13,41,42,43] [3,9,55]], rgG [oo, oo, oo, opI (.call [[2], [0]] [(tl 2 x2 qaA), (ti .u32 p)] (tl 1 x6 qaC)), opI (.lit (([x6] : List (List Int)).map qaF)), .appR (([x6] : List (List Int)).map qaF) ((r55 ++ ([x6] : List (List Int))).map qaF), oo], rgG [oo, opI (.call [[2]] [(tl 2 x2 qaA)] (TV.agg (qaA x9))), oo, oo], rgG [oo, oo, opI (.call [[0,1], [0,1]] [(TV.agg (qaA x9)), (TV.agg (qaA height))] (ti .i64 x11)), oo], bTr, rg2, .pre [.rl 10 0 (r55 ++ ([x6] : List (List Int))).length, .keep [3,7,8,9,10,11,41,42,43] [3,9,55]]] hn (aC h1 <| aC (qa1 h3) <| aC (qbS qaD h3) <| aC (qfS h5) <| aC (qfC h7) <| aC (by kernel_rfl : [(T.sl 1 (x6.map qaC))] = (([x6] : List (List Int)).map qaF).flatten) <| aC (by simp : r55.length = (r55.map qaF).length) <| aC (qbJ _ _ _ (by simp) : ((([x6] : List (List Int)).map qaF).drop 0).take 1 = ([x6] : List (List Int)).map qaF) <| aC (qs5 _ _ _ : r55.map qaF ++ ([x6] : List (List Int)).map qaF = (r55 ++ ([x6] : List (List Int))).map qaF) <| aC ((qeF _ _).symm ▸ h8 : ((r55 ++ ([x6] : List (List Int))).map qaF).length * 24 ≤ 140737488355328) <| aC ((qeF _ _).symm ▸ room (by decide) h8 : ((r55 ++ ([x6] : List (List Int))).map qaF).length ≤ maxLen) <| aC (qkH h10) <| aC (qdA h12) <| aC h13 <| aC r0 <| aC (by simp : ((r55 ++ ([x6] : List (List Int))).map qaF).length = (r55 ++ ([x6] : List (List Int))).length) <| aN) (ih _ _ h cx hn)
  ·exact wkG [.go, rg1, bTr, rgG [opI (.ix (qaD x2)), oo, oo], rgG [oo, oo, opI (.call [[2], [2]] [(tl 2 f qaA), (tl 2 x2 qaA)] (tl 2 x4 qaA)), oo], .pre [.keep [3,7,8,9,10,11,13,41,42,43] [3,9,55]], rgG [oo, oo, oo, opI (.call [[2], [0]] [(tl 2 x2 qaA), (ti .u32 p)] (tl 1 x6 qaC)), opI (.lit (([x6] : List (List Int)).map qaF)), .appR (([x6] : List (List Int)).map qaF) ((r55 ++ ([x6] : List (List Int))).map qaF), oo], rgG [oo, opI (.call [[2]] [(tl 2 x2 qaA)] (TV.agg (qaA x9))), oo, oo], rgG [oo, oo, opI (.call [[0,1], [0,1]] [(TV.agg (qaA x9)), (TV.agg (qaA height))] (ti .i64 x11)), oo], bFa, .pre [.rl 10 0 (r55 ++ ([x6] : List (List Int))).length, .keep [3,7,8,9,10,11,41,42,43] [3,9,55]]] hn (aC h1 <| aC (qa1 h3) <| aC (qbS qaD h3) <| aC (qfS h5) <| aC (qfC h7) <| aC (by kernel_rfl : [(T.sl 1 (x6.map qaC))] = (([x6] : List (List Int)).map qaF).flatten) <| aC (by simp : r55.length = (r55.map qaF).length) <| aC (qbJ _ _ _ (by simp) : ((([x6] : List (List Int)).map qaF).drop 0).take 1 = ([x6] : List (List Int)).map qaF) <| aC (qs5 _ _ _ : r55.map qaF ++ ([x6] : List (List Int)).map qaF = (r55 ++ ([x6] : List (List Int))).map qaF) <| aC ((qeF _ _).symm ▸ h8 : ((r55 ++ ([x6] : List (List Int))).map qaF).length * 24 ≤ 140737488355328) <| aC ((qeF _ _).symm ▸ room (by decide) h8 : ((r55 ++ ([x6] : List (List Int))).map qaF).length ≤ maxLen) <| aC (qkH h10) <| aC (qdA h12) <| aC h13 <| aC r0 <| aC (by simp : ((r55 ++ ([x6] : List (List Int))).map qaF).length = (r55 ++ ([x6] : List (List Int))).length) <| aN) (ih _ _ h cx hn)
 ·obtain ⟨x2, h3, h⟩ := qaH h
  obtain ⟨x4, h5, h⟩ := qaH h
  obtain ⟨x6, h7, h⟩ := qaH h
  rcases qaQ h with ⟨h8, h⟩ | ⟨h8, h⟩
  ·rcases qaQ h with ⟨h9, h⟩ | ⟨h9, h⟩
   ·have h := oinj h; subst h
    exact wkR [.go, rg1, bFa, rgG [oo, oo, opI (.call [[0,1], [0]] [(TV.agg (qaA height)), (ti .u32 p)] (TV.tup [(false, [(T.int .i64 x2.1)]), (false, [(T.int .i64 x2.2)])])), oo, oo, oo, oo, oo], rgG [oo, oo, oo, oo, .snap 72 (max 0 (0 + r55.length)) (r55.map qaF), opI (.call [[2], [1], [0], [0]] [(tl 2 f qaA), (tl 1 r55 qaF), (ti .u32 p), (ti .i64 x2.1)] (TV.tup [(false, [(T.sl 1 (x4.1.map qaD))]), (false, [(T.int .i64 x4.2)])])), oo, oo, oo, oo, oo], rgG [oo, oo, .snap 79 (max (max 0 (0 + r55.length)) (0 + r55.length)) (r55.map qaF), opI (.call [[1], [0]] [(tl 1 r55 qaF), (ti .u32 p)] (TV.c (T.bool x6))), oo, oo], bTr, rgG [oo, oo, oo, .sb 85 true, oo, opI (.ln (x4.1.length : Int)), oo, oo, oo]] hn (aC h1 <| aC (qa7 h3) <| aC (qbJ _ _ _ (by simp) : ((r55.map qaF).drop 0).take r55.length = r55.map qaF) <| aC (rfl : (max 0 (0 + r55.length)) = (max 0 (0 + r55.length))) <| aC (qcG h5) <| aC (qbJ _ _ _ (by simp) : ((r55.map qaF).drop 0).take r55.length = r55.map qaF) <| aC (rfl : (max (max 0 (0 + r55.length)) (0 + r55.length)) = (max (max 0 (0 + r55.length)) (0 + r55.length))) <| aC (qbO h7) <| aC h8 <| aC h9 <| aC (qaX x4.1 qaD) <| aN)
   ·have h := oinj h; subst h
    exact wkR [.go, rg1, bFa, rgG [oo, oo, opI (.call [[0,1], [0]] [(TV.agg (qaA height)), (ti .u32 p)] (TV.tup [(false, [(T.int .i64 x2.1)]), (false, [(T.int .i64 x2.2)])])), oo, oo, oo, oo, oo], rgG [oo, oo, oo, oo, .snap 72 (max 0 (0 + r55.length)) (r55.map qaF), opI (.call [[2], [1], [0], [0]] [(tl 2 f qaA), (tl 1 r55 qaF), (ti .u32 p), (ti .i64 x2.1)] (TV.tup [(false, [(T.sl 1 (x4.1.map qaD))]), (false, [(T.int .i64 x4.2)])])), oo, oo, oo, oo, oo], rgG [oo, oo, .snap 79 (max (max 0 (0 + r55.length)) (0 + r55.length)) (r55.map qaF), opI (.call [[1], [0]] [(tl 1 r55 qaF), (ti .u32 p)] (TV.c (T.bool x6))), oo, oo], bTr, rgG [oo, oo, oo, .sb 85 false, oo, oo, oo, oo, oo]] hn (aC h1 <| aC (qa7 h3) <| aC (qbJ _ _ _ (by simp) : ((r55.map qaF).drop 0).take r55.length = r55.map qaF) <| aC (rfl : (max 0 (0 + r55.length)) = (max 0 (0 + r55.length))) <| aC (qcG h5) <| aC (qbJ _ _ _ (by simp) : ((r55.map qaF).drop 0).take r55.length = r55.map qaF) <| aC (rfl : (max (max 0 (0 + r55.length)) (0 + r55.length)) = (max (max 0 (0 + r55.length)) (0 + r55.length))) <| aC (qbO h7) <| aC h8 <| aC h9 <| aN)
  ·obtain ⟨x9, h10, h⟩ := qaH h
   rcases qaQ h with ⟨h11, h⟩ | ⟨h11, h⟩
   ·rcases qaQ h with ⟨h12, h⟩ | ⟨h12, h⟩
    ·have h := oinj h; subst h
     exact wkR [.go, rg1, bFa, rgG [oo, oo, opI (.call [[0,1], [0]] [(TV.agg (qaA height)), (ti .u32 p)] (TV.tup [(false, [(T.int .i64 x2.1)]), (false, [(T.int .i64 x2.2)])])), oo, oo, oo, oo, oo], rgG [oo, oo, oo, oo, .snap 72 (max 0 (0 + r55.length)) (r55.map qaF), opI (.call [[2], [1], [0], [0]] [(tl 2 f qaA), (tl 1 r55 qaF), (ti .u32 p), (ti .i64 x2.1)] (TV.tup [(false, [(T.sl 1 (x4.1.map qaD))]), (false, [(T.int .i64 x4.2)])])), oo, oo, oo, oo, oo], rgG [oo, oo, .snap 79 (max (max 0 (0 + r55.length)) (0 + r55.length)) (r55.map qaF), opI (.call [[1], [0]] [(tl 1 r55 qaF), (ti .u32 p)] (TV.c (T.bool x6))), oo, oo], bFa, rgG [oo, oo, opI (.call [[0,1], [0]] [(TV.agg (qaA c)), (ti .u32 p)] (ti .u32 x9)), oo, oo], bTr, rgG [oo, oo, oo, .sb 97 true, oo, opI (.ln (x4.1.length : Int)), oo, oo, oo]] hn (aC h1 <| aC (qa7 h3) <| aC (qbJ _ _ _ (by simp) : ((r55.map qaF).drop 0).take r55.length = r55.map qaF) <| aC (rfl : (max 0 (0 + r55.length)) = (max 0 (0 + r55.length))) <| aC (qcG h5) <| aC (qbJ _ _ _ (by simp) : ((r55.map qaF).drop 0).take r55.length = r55.map qaF) <| aC (rfl : (max (max 0 (0 + r55.length)) (0 + r55.length)) = (max (max 0 (0 + r55.length)) (0 + r55.length))) <| aC (qbO h7) <| aC h8 <| aC (qa8 h10) <| aC h11 <| aC h12 <| aC (qaX x4.1 qaD) <| aN)
    ·have h := oinj h; subst h
     exact wkR [.go, rg1, bFa, rgG [oo, oo, opI (.call [[0,1], [0]] [(TV.agg (qaA height)), (ti .u32 p)] (TV.tup [(false, [(T.int .i64 x2.1)]), (false, [(T.int .i64 x2.2)])])), oo, oo, oo, oo, oo], rgG [oo, oo, oo, oo, .snap 72 (max 0 (0 + r55.length)) (r55.map qaF), opI (.call [[2], [1], [0], [0]] [(tl 2 f qaA), (tl 1 r55 qaF), (ti .u32 p), (ti .i64 x2.1)] (TV.tup [(false, [(T.sl 1 (x4.1.map qaD))]), (false, [(T.int .i64 x4.2)])])), oo, oo, oo, oo, oo], rgG [oo, oo, .snap 79 (max (max 0 (0 + r55.length)) (0 + r55.length)) (r55.map qaF), opI (.call [[1], [0]] [(tl 1 r55 qaF), (ti .u32 p)] (TV.c (T.bool x6))), oo, oo], bFa, rgG [oo, oo, opI (.call [[0,1], [0]] [(TV.agg (qaA c)), (ti .u32 p)] (ti .u32 x9)), oo, oo], bTr, rgG [oo, oo, oo, .sb 97 false, oo, oo, oo, oo, oo]] hn (aC h1 <| aC (qa7 h3) <| aC (qbJ _ _ _ (by simp) : ((r55.map qaF).drop 0).take r55.length = r55.map qaF) <| aC (rfl : (max 0 (0 + r55.length)) = (max 0 (0 + r55.length))) <| aC (qcG h5) <| aC (qbJ _ _ _ (by simp) : ((r55.map qaF).drop 0).take r55.length = r55.map qaF) <| aC (rfl : (max (max 0 (0 + r55.length)) (0 + r55.length)) = (max (max 0 (0 + r55.length)) (0 + r55.length))) <| aC (qbO h7) <| aC h8 <| aC (qa8 h10) <| aC h11 <| aC h12 <| aN)
   ·rcases qaQ h with ⟨h12, h⟩ | ⟨h12, h⟩
    ·have h := oinj h; subst h
     exact wkR [.go, rg1, bFa, rgG [oo, oo, opI (.call [[0,1], [0]] [(TV.agg (qaA height)), (ti .u32 p)] (TV.tup [(false, [(T.int .i64 x2.1)]), (false, [(T.int .i64 x2.2)])])), oo, oo, oo, oo, oo], rgG [oo, oo, oo, oo, .snap 72 (max 0 (0 + r55.length)) (r55.map qaF), opI (.call [[2], [1], [0], [0]] [(tl 2 f qaA), (tl 1 r55 qaF), (ti .u32 p), (ti .i64 x2.1)] (TV.tup [(false, [(T.sl 1 (x4.1.map qaD))]), (false, [(T.int .i64 x4.2)])])), oo, oo, oo, oo, oo], rgG [oo, oo, .snap 79 (max (max 0 (0 + r55.length)) (0 + r55.length)) (r55.map qaF), opI (.call [[1], [0]] [(tl 1 r55 qaF), (ti .u32 p)] (TV.c (T.bool x6))), oo, oo], bFa, rgG [oo, oo, opI (.call [[0,1], [0]] [(TV.agg (qaA c)), (ti .u32 p)] (ti .u32 x9)), oo, oo], bFa, rgG [oo, oo, oo, .sb 105 true, oo, oo, oo, oo, oo, oo, oo], bTr, rg1] hn (aC h1 <| aC (qa7 h3) <| aC (qbJ _ _ _ (by simp) : ((r55.map qaF).drop 0).take r55.length = r55.map qaF) <| aC (rfl : (max 0 (0 + r55.length)) = (max 0 (0 + r55.length))) <| aC (qcG h5) <| aC (qbJ _ _ _ (by simp) : ((r55.map qaF).drop 0).take r55.length = r55.map qaF) <| aC (rfl : (max (max 0 (0 + r55.length)) (0 + r55.length)) = (max (max 0 (0 + r55.length)) (0 + r55.length))) <| aC (qbO h7) <| aC h8 <| aC (qa8 h10) <| aC h11 <| aC h12 <| aC rt <| aN)
    ·rcases qaQ h with ⟨h13, h⟩ | ⟨h13, h⟩
     ·have h := oinj h; subst h
      exact wkR [.go, rg1, bFa, rgG [oo, oo, opI (.call [[0,1], [0]] [(TV.agg (qaA height)), (ti .u32 p)] (TV.tup [(false, [(T.int .i64 x2.1)]), (false, [(T.int .i64 x2.2)])])), oo, oo, oo, oo, oo], rgG [oo, oo, oo, oo, .snap 72 (max 0 (0 + r55.length)) (r55.map qaF), opI (.call [[2], [1], [0], [0]] [(tl 2 f qaA), (tl 1 r55 qaF), (ti .u32 p), (ti .i64 x2.1)] (TV.tup [(false, [(T.sl 1 (x4.1.map qaD))]), (false, [(T.int .i64 x4.2)])])), oo, oo, oo, oo, oo], rgG [oo, oo, .snap 79 (max (max 0 (0 + r55.length)) (0 + r55.length)) (r55.map qaF), opI (.call [[1], [0]] [(tl 1 r55 qaF), (ti .u32 p)] (TV.c (T.bool x6))), oo, oo], bFa, rgG [oo, oo, opI (.call [[0,1], [0]] [(TV.agg (qaA c)), (ti .u32 p)] (ti .u32 x9)), oo, oo], bFa, rgG [oo, oo, oo, .sb 105 false, oo, opI (.ln (x4.1.length : Int)), oo, opI (.ln (factors.length : Int)), oo, oo, oo], bTr, rg1] hn (aC h1 <| aC (qa7 h3) <| aC (qbJ _ _ _ (by simp) : ((r55.map qaF).drop 0).take r55.length = r55.map qaF) <| aC (rfl : (max 0 (0 + r55.length)) = (max 0 (0 + r55.length))) <| aC (qcG h5) <| aC (qbJ _ _ _ (by simp) : ((r55.map qaF).drop 0).take r55.length = r55.map qaF) <| aC (rfl : (max (max 0 (0 + r55.length)) (0 + r55.length)) = (max (max 0 (0 + r55.length)) (0 + r55.length))) <| aC (qbO h7) <| aC h8 <| aC (qa8 h10) <| aC h11 <| aC h12 <| aC (qaX x4.1 qaD) <| aC (qaX factors qaD) <| aC h13 <| aN)
     ·exact wkG [.go, rg1, bFa, rgG [oo, oo, opI (.call [[0,1], [0]] [(TV.agg (qaA height)), (ti .u32 p)] (TV.tup [(false, [(T.int .i64 x2.1)]), (false, [(T.int .i64 x2.2)])])), oo, oo, oo, oo, oo], rgG [oo, oo, oo, oo, .snap 72 (max 0 (0 + r55.length)) (r55.map qaF), opI (.call [[2], [1], [0], [0]] [(tl 2 f qaA), (tl 1 r55 qaF), (ti .u32 p), (ti .i64 x2.1)] (TV.tup [(false, [(T.sl 1 (x4.1.map qaD))]), (false, [(T.int .i64 x4.2)])])), oo, oo, oo, oo, oo], rgG [oo, oo, .snap 79 (max (max 0 (0 + r55.length)) (0 + r55.length)) (r55.map qaF), opI (.call [[1], [0]] [(tl 1 r55 qaF), (ti .u32 p)] (TV.c (T.bool x6))), oo, oo], bFa, rgG [oo, oo, opI (.call [[0,1], [0]] [(TV.agg (qaA c)), (ti .u32 p)] (ti .u32 x9)), oo, oo], bFa, rgG [oo, oo, oo, .sb 105 false, oo, opI (.ln (x4.1.length : Int)), oo, opI (.ln (factors.length : Int)), oo, oo, oo], bFa, .pre [.keep [11,17] []]] hn (aC h1 <| aC (qa7 h3) <| aC (qbJ _ _ _ (by simp) : ((r55.map qaF).drop 0).take r55.length = r55.map qaF) <| aC (rfl : (max 0 (0 + r55.length)) = (max 0 (0 + r55.length))) <| aC (qcG h5) <| aC (qbJ _ _ _ (by simp) : ((r55.map qaF).drop 0).take r55.length = r55.map qaF) <| aC (rfl : (max (max 0 (0 + r55.length)) (0 + r55.length)) = (max (max 0 (0 + r55.length)) (0 + r55.length))) <| aC (qbO h7) <| aC h8 <| aC (qa8 h10) <| aC h11 <| aC h12 <| aC (qaX x4.1 qaD) <| aC (qaX factors qaD) <| aC h13 <| aN) (ih _ _ h cx hn)
theorem qu3 {K} (ih : qdN K) {cx} (hn : cx.n = 127) {got t112 t113 t114} {r} (h : qaM (K + 1) (.c5 got t112 t113 t114) = some r) : qdM cx (.c5 got t112 t113 t114) r := by
 rw [qaM] at h
 rcases qaQ h with ⟨h1, h⟩ | ⟨h1, h⟩
 ·obtain ⟨x2, h3, h⟩ := qaH h
  obtain ⟨x4, h5, h⟩ := qaH h
  obtain ⟨x6, h7, h⟩ := qaH h
  rcases qaQ h with ⟨h8, h⟩ | ⟨h8, h⟩
  ·have h := oinj h; subst h
   exact wkR [.go, rg1, bTr, rgG [oo, opI (.ix (qaD x2)), oo, oo, oo], rgG [oo, oo, opI (.ix (qaD x4)), oo, oo, opI (.call [[2], [2]] [(tl 2 x4 qaA), (tl 2 x2 qaA)] (TV.c (T.bool x6))), oo], bTr, rg1] hn (aC h1 <| aC (qa1 h3) <| aC (qbS qaD h3) <| aC (qa1 h5) <| aC (qbS qaD h5) <| aC (qjX h7) <| aC h8 <| aN)
  ·exact wkG [.go, rg1, bTr, rgG [oo, opI (.ix (qaD x2)), oo, oo, oo], rgG [oo, oo, opI (.ix (qaD x4)), oo, oo, opI (.call [[2], [2]] [(tl 2 x4 qaA), (tl 2 x2 qaA)] (TV.c (T.bool x6))), oo], bFa, rg2, .pre [.keep [17,112,113,114] []]] hn (aC h1 <| aC (qa1 h3) <| aC (qbS qaD h3) <| aC (qa1 h5) <| aC (qbS qaD h5) <| aC (qjX h7) <| aC h8 <| aN) (ih _ _ h cx hn)
 ·have h := oinj h; subst h
  exact wkR [.go, rg1, bFa, rg1] hn (aC h1 <| aN)
theorem qdB : ∀ K : Nat, qdN K
 | 0, c, r, h => by rw [qaM] at h; cases h
 | K + 1, .c0 .., r, h => fun cx hn => qu8 (qdB K) hn h
 | K + 1, .c1 .., r, h => fun cx hn => qu7 (qdB K) hn h
 | K + 1, .c2 .., r, h => fun cx hn => qu6 (qdB K) hn h
 | K + 1, .c3 .., r, h => fun cx hn => qu5 (qdB K) hn h
 | K + 1, .c4 .., r, h => fun cx hn => qu4 (qdB K) hn h
 | K + 1, .c5 .., r, h => fun cx hn => qu3 (qdB K) hn h
theorem qs1 {K : Nat} {c : qaB} {l : (List qyA)} {n : Int} {r : Bool} (h : qjJ K c l n = some r) : qc5 prog 11 [(TV.agg (qaA c)), (tl 3 l qgV), (ti .u8 n)] (TV.c (T.bool r)) :=
 qa0 [[0]] (by kernel_rfl) (by simp) fun cx hn => qdB K (.c0 c l n) r h cx hn
open Go Go.Sem
theorem ztW (x : Int) : 0 ≤ bits .and .i8 x 1 ∧ bits .and .i8 x 1 ≤ 1 := by
  show 0 ≤ IntKind.i8.wrap ((BitVec.ofInt 8 x &&& BitVec.ofInt 8 1).toNat : Int) ∧ IntKind.i8.wrap ((BitVec.ofInt 8 x &&& BitVec.ofInt 8 1).toNat : Int) ≤ 1
  rw [BitVec.toNat_and]
  have h : (BitVec.ofInt 8 x).toNat &&& (BitVec.ofInt 8 1).toNat ≤ 1 := Nat.and_le_right
  generalize (BitVec.ofInt 8 x).toNat &&& (BitVec.ofInt 8 1).toNat = n at h ⊢
  obtain rfl | rfl : n = 0 ∨ n = 1 := by omega
  · decide
  · decide
def Sml (l : List Int) : Prop := ∀ x ∈ l, x.natAbs ≤ 128
theorem Sml.set {l : List Int} (h : Sml l) (i : Nat) {x : Int} (hx : x.natAbs ≤ 128) : Sml (l.set i x) := fun y hy => (List.mem_or_eq_of_mem_set hy).elim (h y) (fun e => e ▸ hx)
theorem q3V (l : List Int) (i : Nat) (x : Int) : (mkP l).set i (mkI x) = mkP (l.set i x) := by simp [mkP, List.map_set]
structure Mo (g : List Int) : Prop where
  l1 : 2 ≤ g.length
  l2 : g.length ≤ 4
  top : co g (g.length - 1) = 1
  sml : Sml g
structure A8 (a : qyA) : Prop where
  r0 : -128 ≤ a.e0 ∧ a.e0 ≤ 127
  r1 : -128 ≤ a.e1 ∧ a.e1 ≤ 127
  r2 : -128 ≤ a.e2 ∧ a.e2 ≤ 127
section
variable {l : List qyA} {i : Nat} {α : Type} {Q : List (List qaB) → Prop}
theorem zsV {n : Nat} (hn : 1 ≤ n ∧ n ≤ 3) {L : List Int} (hL : L.length = n + 1) (hs : Sml L) : Mo (L.set n 1) := by
  refine ⟨by simp; omega, by simp; omega, ?_, hs.set n (by decide)⟩
  rw [List.length_set, hL, Nat.add_sub_cancel, zqX (by omega), if_pos rfl]
theorem zv4 {r66 : List (List qaB)} {f : List Int} (hf : Sml f) (hfl : f.length ≤ 3) {n : Nat} (hn : 1 ≤ n ∧ n ≤ 3) (hr : r66.length ≤ 100) (hi : i ≤ 100)
    (next : ∀ g, Mo g → ∃ res, Ev (fun K => qaP K (.c4 (r66 ++ [mkP g]) l l.length ((i + 1 : Nat) : Int))) res ∧ Q res) :
    ∀ (m j : Nat) (L : List Int), j + m = n → L.length = n + 1 → Sml L → ∃ res, Ev (fun K => qaP K (.c5 (mkP L) r66 (mkP f) n l l.length i n j)) res ∧ Q res
  | 0, j, L, hj, hL, hs => by
    obtain rfl : j = n := by omega
    obtain ⟨res, e1, e2⟩ := next _ (zsV hn hL hs)
    refine ⟨res, qaJ ?_, e2⟩
    simp only [qaP]
    refine ev_f (by simp) (qaG qpL (qa3 (qbN (by rw [qc1]; omega)) (qeZ (by simp; omega) ?_)))
    rw [Int.toNat_natCast, q3V, qbR (by omega)]
    exact e1
  | m + 1, j, L, hj, hL, hs => by
    have hjL : j < (mkP L).length := by rw [qc1]; omega
    have step : ∀ L', L'.length = n + 1 → Sml L' → ∃ res, Ev (fun K => qaP K (.c6 (mkP L') r66 (mkP f) n l l.length i n j)) res ∧ Q res := by
      intro L' h1 h2
      obtain ⟨res, e1, e2⟩ := zv4 hf hfl hn hr hi next m (j + 1) L' (by omega) h1 h2
      refine ⟨res, qaJ ?_, e2⟩
      simp only [qaP]
      rw [qbR (by omega), show (j : Int) + 1 = ((j + 1 : Nat) : Int) by omega]
      exact e1
    by_cases hc : j < f.length
    · obtain ⟨res, e1, e2⟩ := step ((L.set j 0).set j f[j]) (by simp; exact hL) ((hs.set j (by decide)).set j (hf _ (List.getElem_mem hc)))
      refine ⟨res, qaJ ?_, e2⟩
      simp only [qaP]
      refine ev_t (by simp only [decide_eq_true_eq]; omega) (qaG (qf9 (by decide)) (qa3 (qbN hjL) (ev_t (by simp only [decide_eq_true_eq, qc1]; omega) (qa3 (qsV (qsH (List.getElem?_eq_getElem hc))) ?_))))
      rw [Int.toNat_natCast, q3V, q3V]
      exact qa3 (qbN (by rw [qc1, List.length_set]; omega)) e1
    · obtain ⟨res, e1, e2⟩ := step (L.set j 0) (by simp; exact hL) (hs.set j (by decide))
      refine ⟨res, qaJ ?_, e2⟩
      simp only [qaP]
      refine ev_t (by simp only [decide_eq_true_eq]; omega) (qaG (qf9 (by decide)) (qa3 (qbN hjL) (ev_f (by simp only [decide_eq_false_iff_not, qc1]; omega) ?_)))
      rw [Int.toNat_natCast, q3V]
      exact e1
theorem zv6 {f : List Int} (hf : Sml f) (hfl : f.length ≤ 3) {n : Nat} (hn : 1 ≤ n ∧ n ≤ 3) (hi : i ≤ 100)
    (next : ∀ g, Mo g → ∃ res, Ev (fun K => qaP K (.c4 [mkP g] l l.length ((i + 1 : Nat) : Int))) res ∧ Q res) :
    ∀ (m j : Nat) (L : List Int), j + m = n → L.length = n + 1 → Sml L → ∃ res, Ev (fun K => qaP K (.c2 (mkP L) (mkP f) n l l.length i n j)) res ∧ Q res
  | 0, j, L, hj, hL, hs => by
    obtain rfl : j = n := by omega
    obtain ⟨res, e1, e2⟩ := next _ (zsV hn hL hs)
    refine ⟨res, qaJ ?_, e2⟩
    simp only [qaP]
    refine ev_f (by simp) (qaG qpL (qa3 (qbN (by rw [qc1]; omega)) ?_))
    rw [Int.toNat_natCast, q3V, qbR (by omega)]
    exact e1
  | m + 1, j, L, hj, hL, hs => by
    have hjL : j < (mkP L).length := by rw [qc1]; omega
    have step : ∀ L', L'.length = n + 1 → Sml L' → ∃ res, Ev (fun K => qaP K (.c3 (mkP L') (mkP f) n l l.length i n j)) res ∧ Q res := by
      intro L' h1 h2
      obtain ⟨res, e1, e2⟩ := zv6 hf hfl hn hi next m (j + 1) L' (by omega) h1 h2
      refine ⟨res, qaJ ?_, e2⟩
      simp only [qaP]
      rw [qbR (by omega), show (j : Int) + 1 = ((j + 1 : Nat) : Int) by omega]
      exact e1
    by_cases hc : j < f.length
    · obtain ⟨res, e1, e2⟩ := step ((L.set j 0).set j f[j]) (by simp; exact hL) ((hs.set j (by decide)).set j (hf _ (List.getElem_mem hc)))
      refine ⟨res, qaJ ?_, e2⟩
      simp only [qaP]
      refine ev_t (by simp only [decide_eq_true_eq]; omega) (qaG (qf9 (by decide)) (qa3 (qbN hjL) (ev_t (by simp only [decide_eq_true_eq, qc1]; omega) (qa3 (qsV (qsH (List.getElem?_eq_getElem hc))) ?_))))
      rw [Int.toNat_natCast, q3V, q3V]
      exact qa3 (qbN (by rw [qc1, List.length_set]; omega)) e1
    · obtain ⟨res, e1, e2⟩ := step (L.set j 0) (by simp; exact hL) (hs.set j (by decide))
      refine ⟨res, qaJ ?_, e2⟩
      simp only [qaP]
      refine ev_t (by simp only [decide_eq_true_eq]; omega) (qaG (qf9 (by decide)) (qa3 (qbN hjL) (ev_f (by simp only [decide_eq_false_iff_not, qc1]; omega) ?_)))
      rw [Int.toNat_natCast, q3V]
      exact e1
end
theorem mon_n (x : Int) {i : Nat} (hi : i ≤ 100) : ∃ n : Nat, wI6 ((1 : Int) + (Int.tmod (wI6 ((i : Int) + (wI6 (bits .and .i8 x (1 : Int))))) (3 : Int))) = (n : Int) ∧ 1 ≤ n ∧ n ≤ 3 := by
  obtain ⟨h1, h2⟩ := ztW x
  generalize bits .and .i8 x (1 : Int) = b at h1 h2 ⊢
  rw [qbR (x := b) (by omega), qbR (x := (i : Int) + b) (by omega), Int.tmod_eq_emod_of_nonneg (by omega), qbR (by omega)]
  exact ⟨(1 + ((i : Int) + b) % 3).toNat, by omega, by omega, by omega⟩
theorem zv7 {a : qyA} (h : A8 a) : ∃ f : List Int, Ev (fun K => qiV K ([(wI6 a.e0), (wI6 a.e1), (wI6 a.e2)] : List Int)) (mkP f) ∧ Sml f ∧ f.length ≤ 3 := by
  obtain ⟨r0, r1, r2⟩ := h
  rw [qbR (x := a.e0) (by omega), qbR (x := a.e1) (by omega), qbR (x := a.e2) (by omega)]
  refine ⟨_, qv3 [a.e0, a.e1, a.e2] ?_ (by simp), fun x hx => ?_, qrA _⟩
  · intro x hx; simp only [List.mem_cons, List.not_mem_nil, or_false] at hx; omega
  · have := q5Q hx; simp only [List.mem_cons, List.not_mem_nil, or_false] at this; omega
theorem zsU (n : Nat) : List.replicate (wI6 ((n : Int) + 1)).toNat (qaB.mk false []) = mkP (List.replicate (wI6 ((n : Int) + 1)).toNat 0) := by
  simp only [mkP, List.map_replicate, zh2]
theorem zsA (n : Nat) : Sml (List.replicate n 0) := fun x hx => by rw [(List.mem_replicate.1 hx).2]; decide
section
variable {l : List qyA}
theorem zv5 (ha : ∀ a ∈ l, A8 a) (hl : l.length ≤ 4) : ∀ (m i : Nat) (G : List (List Int)), i + m = l.length → G.length = i → (∀ g ∈ G, Mo g) →
    ∃ res, Ev (fun K => qaP K (.c4 (G.map mkP) l l.length i)) res ∧ ∃ G' : List (List Int), res = G'.map mkP ∧ G'.length = l.length ∧ ∀ g ∈ G', Mo g
  | 0, i, G, hi, hG, hm => by
    refine ⟨_, qaJ ?_, G, rfl, by omega, hm⟩
    simp only [qaP]
    exact ev_f (by simp; omega) (qaT _)
  | m + 1, i, G, hi, hG, hm => by
    have hil : i < l.length := by omega
    obtain ⟨f, f1, f2, f3⟩ := zv7 (ha _ (List.getElem_mem hil))
    obtain ⟨n, hn, n1, n2⟩ := mon_n (l[i]).e0 (i := i) (by omega)
    have next : ∀ g, Mo g → ∃ res, Ev (fun K => qaP K (.c4 (G.map mkP ++ [mkP g]) l l.length ((i + 1 : Nat) : Int))) res ∧ ∃ G' : List (List Int), res = G'.map mkP ∧ G'.length = l.length ∧ ∀ g ∈ G', Mo g := by
      intro g hg
      have := zv5 ha hl m (i + 1) (G ++ [g]) (by omega) (by simp; omega) (fun x hx => (List.mem_append.1 hx).elim (hm x) (fun h => by rw [List.mem_singleton.1 h]; exact hg))
      rw [List.map_append] at this
      exact this
    have hw : wI6 ((n : Int) + 1) = (n : Int) + 1 := qbR (by omega)
    obtain ⟨res, e1, e2⟩ := zv4 f2 f3 ⟨n1, n2⟩ (by simp; omega) (by omega) next n 0 (List.replicate (wI6 ((n : Int) + 1)).toNat 0) (by omega) (by rw [hw, List.length_replicate]; omega) (zsA _)
    refine ⟨res, qaJ ?_, e2⟩
    simp only [qaP]
    refine ev_t (by simp; omega) (qa3 (qbN hil) (qaG f1 ?_))
    rw [hn]
    refine qeZ (by rw [hw]; omega) ?_
    rw [zsU]
    exact e1
theorem zsT (ha : ∀ a ∈ l, A8 a) (hl : l.length ≤ 4) : ∃ G : List (List Int), Ev (fun K => qkP K l) (G.map mkP) ∧ G.length = l.length ∧ ∀ g ∈ G, Mo g := by
  suffices hs : ∃ res, Ev (fun K => qaP K (.c1 l l.length 0)) res ∧ ∃ G' : List (List Int), res = G'.map mkP ∧ G'.length = l.length ∧ ∀ g ∈ G', Mo g by
    obtain ⟨res, e1, G, rfl, e2⟩ := hs
    refine ⟨G, qaJ ?_, e2⟩
    simp only [qkP, qaP]
    exact e1
  by_cases h0 : l.length = 0
  · refine ⟨_, qaJ ?_, [], rfl, by simp; omega, fun _ h => by cases h⟩
    simp only [qaP]
    exact ev_f (by simp only [decide_eq_false_iff_not]; omega) (qaT _)
  · have hil : 0 < l.length := by omega
    obtain ⟨f, f1, f2, f3⟩ := zv7 (ha _ (List.getElem_mem hil))
    obtain ⟨n, hn, n1, n2⟩ := mon_n (l[0]).e0 (i := 0) (by omega)
    have next : ∀ g, Mo g → ∃ res, Ev (fun K => qaP K (.c4 [mkP g] l l.length ((0 + 1 : Nat) : Int))) res ∧ ∃ G' : List (List Int), res = G'.map mkP ∧ G'.length = l.length ∧ ∀ g ∈ G', Mo g :=
      fun g hg => zv5 ha hl (l.length - 1) 1 [g] (by omega) rfl (fun x hx => by rw [List.mem_singleton.1 hx]; exact hg)
    have hw : wI6 ((n : Int) + 1) = (n : Int) + 1 := qbR (by omega)
    obtain ⟨res, e1, e2⟩ := zv6 f2 f3 ⟨n1, n2⟩ (by omega) next n 0 (List.replicate (wI6 ((n : Int) + 1)).toNat 0) (by omega) (by rw [hw, List.length_replicate]; omega) (zsA _)
    refine ⟨res, qaJ ?_, e2⟩
    simp only [qaP]
    have hg0 : gi l 0 = some l[0] := ztC (by decide) (by simpa using hil)
    refine ev_t (by simp only [decide_eq_true_eq]; omega) (qa3 hg0 (qaG f1 ?_))
    rw [show ((0 : Nat) : Int) = 0 from rfl] at hn
    rw [hn]
    refine qeZ (by rw [hw]; omega) ?_
    rw [zsU]
    exact e1
end
theorem zxT {p q : Nat} {F G : List Int} (hF : Bd p F) (hG : Bd q G) (hl : F.length < 4294967296) : Bd (p + q + 1) (tz (mulL F G)) := by
  refine zf9 fun x hx => ?_
  obtain ⟨j, _, rfl⟩ := List.mem_map.1 hx
  exact zs0 hF (zd0 hG) hl j
theorem zsW {p : Int} (hr : 2 ≤ p ∧ p ≤ 13) {g : List Int} (h : Mo g) : (modL p g).length = g.length := by
  have h1 := h.l1
  have e : co (g.map (· % p)) = fun k => co g k % p := by rw [← qy9 p g]; exact (q0I _).symm
  refine qzD (by simp) (fun k hk => ?_) (fun _ => ?_)
  · rw [e]; show co g k % p = 0; rw [qdH hk]; rfl
  · rw [e]; show co g (g.length - 1) % p ≠ 0; rw [h.top, Int.emod_eq_of_lt (by decide) (by omega)]; decide
theorem zuZ {p : Int} (hp : Pr p) {G : List (List Int)} (hG : ∀ g ∈ G, Mo g) (hl : G.length ≤ 4) : Hs p (G.map (modL p)) := by
  have hr := hp.range
  refine ⟨hp, by simp; exact hl, fun h hh => ?_⟩
  obtain ⟨g, hg, rfl⟩ := List.mem_map.1 hh
  have hm := hG g hg
  have h1 := zsW hr hm
  have h2 := hm.l1
  have h3 := hm.l2
  exact ⟨qm2 (by omega) g, by omega, by omega⟩
theorem fs_of {p : Int} (hp : Pr p) {G : List (List Int)} (hG : ∀ g ∈ G, Mo g) (hl : G.length ≤ 4) : Fs p G (G.map (modL p)) := by
  have hr := hp.range
  refine ⟨zuZ hp hG hl, by simp, fun i hi hj => ?_⟩
  have hm := hG _ (List.getElem_mem hi)
  rw [List.getElem_map, zsW hr hm]
  exact ⟨rfl, hm.top, rfl, hm.sml⟩
theorem zs4 {p c : Int} (hp : Pr p) (h : ¬ p ∣ c) : ∀ n : Nat, ∃ Z W, c * Z + p ^ n * W = 1
  | 0 => ⟨0, 1, by simp⟩
  | n + 1 => by
    have hr := hp.range
    have h1 := Int.emod_nonneg c (show p ≠ 0 by omega)
    have h2 := Int.emod_lt_of_pos c (show 0 < p by omega)
    have h3 : c % p ≠ 0 := fun e => h (Int.dvd_of_emod_eq_zero e)
    obtain ⟨j, _, _, _, j4⟩ := qgP hp (a := c % p) (by omega)
    obtain ⟨Z, W, e⟩ := zs4 hp h n
    have e1 := Int.emod_add_mul_ediv c p
    have e2 := Int.emod_add_mul_ediv (c % p * j) p
    rw [j4] at e2
    generalize c / p = q at e1
    generalize c % p * j / p = t at e2
    have e3 : c * j + p * (t * -1 - q * j) = 1 := by
      have : c * j = c % p * j + p * (q * j) := by
        rw [← Int.mul_assoc, ← Int.add_mul, e1]
      rw [this]
      generalize c % p * j = a at e2 ⊢
      generalize q * j = b
      rw [Int.mul_sub, Int.mul_neg_one, Int.mul_neg]; omega
    refine ⟨c * Z * j + Z * (p * (t * -1 - q * j)) + p ^ n * W * j, W * (t * -1 - q * j), ?_⟩
    generalize t * -1 - q * j = y at e3 ⊢
    rw [Int.pow_succ]
    have : (c * Z + p ^ n * W) * (c * j + p * y) = 1 := by rw [e, e3]; rfl
    grind
theorem q80 {m : Int} {g : List Int} (h : ∀ x ∈ g, 2 * (x.natAbs : Int) < m) : redL m g = tz g := by
  unfold redL
  congr 1
  have : g.map (fun x => sym x m) = g.map id := List.map_congr_left fun x hx => by
    have := h x hx
    exact zn9 (by omega) (by omega)
  rw [this, List.map_id]
theorem zxJ {l : List Int} {z : Int} (h0 : 0 ≤ z) (h : ∀ x ∈ l, (x.natAbs : Int) ≤ z) : maxA l ≤ z := by
  induction l with
  | nil => exact h0
  | cons a l ih =>
    have h1 := h a (List.mem_cons_self ..)
    have h2 := ih fun x hx => h x (List.mem_cons_of_mem _ hx)
    simp only [maxA]; omega
theorem zs2 {l : List Int} : ∀ x ∈ l, (x.natAbs : Int) ≤ maxA l := by
  induction l with
  | nil => intro x hx; cases hx
  | cons a l ih =>
    intro x hx
    simp only [maxA]
    rcases List.mem_cons.1 hx with rfl | hx
    · omega
    · have := ih x hx; omega
structure Fk (c : Int) (G : List (List Int)) (F : List Int) : Prop where
  t : tz F = F
  l : F.length ≤ 1 + 4 * G.length
  b : Bd (4 + 2 * G.length) F
  lead : c = 0 ∧ F = [] ∨ c ≠ 0 ∧ 0 < F.length ∧ co F (F.length - 1) = c
  prod : ∀ m, pq m F = qint m c * pq m (prL G)
theorem zxM {c : Int} (h : (c.natAbs : Int) < 4294967296 ^ 4) : Fk c [] (tz [c]) := by
  refine ⟨zn6 _, qrA _, zf9 fun x hx => ?_, ?_, fun m => ?_⟩
  · rw [List.mem_singleton.1 hx]
    show -(4294967296 ^ 4) < c ∧ c < 4294967296 ^ 4
    omega
  · by_cases hc : c = 0
    · exact .inl ⟨hc, by simp [tz, hc]⟩
    · exact .inr ⟨hc, by simp [tz, hc], by simp [tz, hc]⟩
  · rw [pq_tz, q4N, zb6, q5U]; grind
theorem ztH {c : Int} {G : List (List Int)} {F g : List Int} (h : Fk c G F) (hg : Mo g) (hl : G.length ≤ 100) : Fk c (G ++ [g]) (tz (mulL F g)) := by
  have g1 := hg.l1
  have g2 := hg.l2
  have hl' := h.l
  have e : (G ++ [g]).length = G.length + 1 := by simp
  refine ⟨zn6 _, ?_, ?_, ?_, fun m => ?_⟩
  · have := zsS F g; omega
  · have := zxT h.b (q := 1) (G := g) (fun x hx => by have := hg.sml x hx; omega) (by omega)
    rw [show 4 + 2 * G.length + 1 + 1 = 4 + 2 * (G ++ [g]).length by omega] at this
    exact this
  · rcases h.lead with ⟨h1, h2⟩ | ⟨h1, h2, h3⟩
    · refine .inl ⟨h1, (qwI _).2 fun k => ?_⟩
      rw [qs3, h2]; rfl
    · have ht : co (mulL F g) (F.length + g.length - 2) = c := by
        rw [qs3, show F.length + g.length - 2 = F.length - 1 + (g.length - 1) by omega, zsX F g h2 (by omega), h3, hg.top, Int.mul_one]
      have hln : (tz (mulL F g)).length = F.length + g.length - 1 := by
        refine qzD (by rw [qv9]; omega) (fun k hk => ?_) (fun _ => ?_)
        · rw [qs3]
          rcases zsZ F g k (by omega) with e | e | e
          · exact e
          · rw [e] at h2; simp at h2
          · rw [e] at g1; simp at g1
        · rw [show F.length + g.length - 1 - 1 = F.length + g.length - 2 by omega, ht]; exact h1
      refine .inr ⟨h1, by omega, ?_⟩
      rw [hln, q0I, show F.length + g.length - 1 - 1 = F.length + g.length - 2 by omega, ht]
  · rw [pq_tz, qgN, h.prod, qwK, zg2]; grind
theorem Fk.lead_ev {c : Int} {G : List (List Int)} {F : List Int} (h : Fk c G F) (hl : G.length ≤ 4) : Ev (fun K => qlE K (mkP F)) (mkI c) := by
  have fl := h.l
  have := q24 (q8I (qm3 (n := 4 + 2 * G.length) (by omega) h.b)) (by rw [qc1]; omega)
  rw [qiI, h.t] at this
  rcases h.lead with ⟨h1, h2⟩ | ⟨_, h1, h2⟩
  · rw [h2] at this; rw [h1, h2]; exact this
  · rw [qdP (by omega)] at h2
    rw [List.getLastD_eq_getLast?, List.getLast?_eq_getElem?, List.getElem?_eq_getElem (by omega)] at this
    simp only [Option.getD_some, h2] at this
    exact this
section
variable {p : Int} {c : qaB} {G : List (List Int)}
theorem zvX (hG : ∀ g ∈ G, Mo g) (hl : G.length ≤ 4) {m : Int} (hm : m ≤ 4096) (hs : ∀ g ∈ G, ∀ x ∈ g, 2 * (x.natAbs : Int) < m) : ∀ (k i : Nat), i + k = G.length → Ev (fun K => qaM K (.c5 (now m G) (G.map mkP) G.length i)) true
  | 0, i, hi => by
    refine qaJ ?_
    simp only [qaM]
    exact ev_f (by simp only [decide_eq_false_iff_not]; omega) (qaT _)
  | k + 1, i, hi => by
    have hi' : i < G.length := by omega
    have hm2 := (hG _ (List.getElem_mem hi'))
    have hsi := hs _ (List.getElem_mem hi')
    have h1 := qrA G[i]
    have h2 := hm2.l2
    have hb : Bd 1 G[i] := fun x hx => by have := hm2.sml x hx; omega
    have hS := zgP (f := mkP (redL m G[i])) (g := mkP G[i]) (by rw [q80 hsi]; exact q8I (qm3 (n := 1) (by omega) (zf9 hb))) (q8I (qm3 (n := 1) (by omega) hb)) (by rw [qc1, q80 hsi]; omega) (by rw [qc1]; omega)
    rw [qiI, qiI, zsI, q80 hsi, decide_eq_true rfl] at hS
    have e1 : gi (G.map mkP) (i : Int) = some (mkP G[i]) := qsV (by simp [List.getElem?_eq_getElem hi'])
    refine qaJ ?_
    simp only [qaM]
    refine ev_t (by simp only [decide_eq_true_eq]; omega) (qa3 e1 (qa3 (qsV (qy3 hi')) ?_))
    rw [q80 hsi]
    refine qaG hS (ev_f rfl ?_)
    rw [qbR (by omega), show (i : Int) + 1 = ((i + 1 : Nat) : Int) by omega]
    exact zvX hG hl hm hs k (i + 1) (by omega)
theorem zsF (hp : Pr p) (hc : Dig c.Abs) (hcl : c.Abs.length ≤ 4) (hG : ∀ g ∈ G, Mo g) (hl : G.length ≤ 4) {F : List Int} (hF : Fk (ival c) G F) {z : Int} (hz : 0 ≤ z) (hz2 : z ≤ 128) (hzb : ∀ g ∈ G, ∀ x ∈ g, (x.natAbs : Int) ≤ z) :
    Ev (fun K => (qgR K (mkI z) p).bind fun x2 =>
      (qjF K (mkP F) (G.map (modL p)) p x2.1).bind fun x4 =>
      (qgJ K (G.map (modL p)) p).bind fun x6 =>
      bif (!x6) then
        bif (decide (x4.2 = (5 : Int))) then
          some (decide ((x4.1.length : Int) = (0 : Int)))
        else
          some false
      else
        (qdQ K c p).bind fun x9 =>
        bif (decide (x9 = (0 : Int))) then
          bif (decide (x4.2 = (3 : Int))) then
            some (decide ((x4.1.length : Int) = (0 : Int)))
          else
            some false
        else
          bif (!decide (x4.2 = (0 : Int))) then
            some false
          else
            bif (!decide ((x4.1.length : Int) = ((G.map mkP).length : Int))) then
              some false
            else
              qaM K (.c3 (G.map mkP) x4.1)) true := by
  have hr := hp.range
  have hcv := zpG hc
  have hcb : ((ival c).natAbs : Int) < 4294967296 ^ 4 := by have := qq8 hcl; omega
  obtain ⟨n, x1, n1, n2, n3, n4⟩ := qyT (b := mkI z) (p := p) (qfZ z) (by have := qjD (z := z) (n := 1) (by omega) (by omega); omega) (by omega)
  rw [qa2] at n3 n4
  have hpn : p ^ n ≤ 4096 := by
    rcases n4 with rfl | h
    · rw [Int.pow_succ, Int.pow_zero, Int.one_mul]; omega
    · have e : p ^ n = p ^ (n - 1) * p := by rw [← Int.pow_succ]; congr 1; omega
      have h1 : p ^ (n - 1) * p ≤ 256 * 13 := Int.mul_le_mul (by omega) hr.2 (by omega) (by omega)
      omega
  have hsm : ∀ g ∈ G, ∀ x ∈ g, 2 * (x.natAbs : Int) < p ^ n := fun g hg x hx => by have := hzb g hg x hx; omega
  obtain ⟨e, x3, he⟩ := zrT (zuZ hp hG hl)
  have sc : Sm c := ⟨hc, by omega⟩
  have r2 := qg6 hr sc
  refine qaG x1 ?_
  rcases he with ⟨rfl, hw⟩ | ⟨rfl, hw⟩
  · by_cases hd : ival c % p = 0
    · exact qaG (zt4 (zuZ hp hG hl) hw (by omega) n1 (hF.lead_ev hl) (zsB sc) hd) (qaG x3 (ev_f rfl (qaG r2 (ev_t (by simp [hd]) (ev_t rfl (qaT _))))))
    · have hnd : ¬ p ∣ ival c := fun h => hd (Int.emod_eq_zero_of_dvd h)
      have hc0 : ival c ≠ 0 := fun h => hd (by rw [h]; exact Int.zero_emod p)
      have gv : Gv p (ival c) (p ^ n) G (G.map (modL p)) F :=
        { fs := fs_of hp hG hl, pc := hnd, t0 := Int.pow_pos (by omega), tl := hpn, inv := zs4 hp hnd n, cb := hcb, ft := hF.t,
          fl := by have := hF.l; omega, fb := ztZ (by omega) hF.b, lead := (hF.lead.resolve_left fun h => hc0 h.1).2, prod := hF.prod }
      refine qaG (zx2 gv hw (by omega) n1) (qaG x3 (ev_f rfl (qaG r2 (ev_f (by simp [hd]) (ev_f rfl (ev_f (by simp [qvG]) ?_))))))
      refine qaJ ?_
      simp only [qaM]
      have := zvX hG hl hpn hsm G.length 0 (by omega)
      rw [List.length_map]
      exact this
  · exact qaG (zx1 (zuZ hp hG hl) hw (by omega) n1 (mkP F)) (qaG x3 (ev_t rfl (ev_t rfl (qaT _))))
theorem zsE (hp : Pr p) {g F : List Int} {A : List (List Int)} (hg : Mo g) (hF : Fk (ival c) A F) (hl : A.length ≤ 4) {z : Int} (hz : 0 ≤ z) (hz2 : z ≤ 128) :
    Ev (fun K => qlN K (mkP F) (mkP g)) (mkP (tz (mulL F g))) ∧ Ev (fun K => qhF K (mkP g) p) (modL p g) ∧ Ev (fun K => qmI K (mkP g)) (mkI (maxA g)) ∧
      Ev (fun K => qg9 K (mkI (maxA g)) (mkI z)) (cmpI (maxA g) z) ∧ 0 ≤ maxA g ∧ maxA g ≤ 128 := by
  have hr := hp.range
  have h2 := hg.l2
  have hb : Bd 1 g := fun x hx => by have := hg.sml x hx; omega
  have hw : Ws (mkP g) := qm3 (n := 1) (by omega) hb
  have hfl := hF.l
  have hm0 := zh3 g
  have hm1 : maxA g ≤ 128 := zxJ (by decide) fun x hx => by have := hg.sml x hx; omega
  have m1 := q5N (f := mkP F) (g := mkP g) (p := 4 + 2 * A.length) (q := 1) (qm3 (n := 4 + 2 * A.length) (by omega) hF.b) hw (by rw [qiI]; exact hF.b) (by rw [qiI]; exact hb) (by omega) (by rw [qc1]; omega) (by rw [qc1]; omega)
  have m2 := qzO hr hw (by rw [qc1]; omega)
  have m3 := zbV (q8I hw) (by rw [qc1]; omega)
  have m4 := qkA (qfZ (maxA g)) (qfZ z) (by have := qjD (z := maxA g) (n := 1) (by omega) (by omega); omega) (by have := qjD (z := z) (n := 1) (by omega) (by omega); omega)
  rw [qiI, qiI] at m1
  rw [qiI] at m2 m3
  rw [qa2, qa2] at m4
  exact ⟨m1, m2, m3, m4, hm0, hm1⟩
theorem zvY (hp : Pr p) (hc : Dig c.Abs) (hcl : c.Abs.length ≤ 4) (hG : ∀ g ∈ G, Mo g) (hl : G.length ≤ 4) : ∀ (m i : Nat) (F : List Int) (z : Int), i + m = G.length → Fk (ival c) (G.take i) F → 0 ≤ z → z ≤ 128 → (∀ g ∈ G.take i, ∀ x ∈ g, (x.natAbs : Int) ≤ z) →
    Ev (fun K => qaM K (.c4 c (mkI z) ((G.take i).map (modL p)) p (mkP F) (G.map mkP) (G.map mkP) G.length i)) true
  | 0, i, F, z, hi, hF, hz, hz2, hzb => by
    have et : G.take i = G := List.take_of_length_le (by omega)
    rw [et] at hF hzb ⊢
    refine qaJ ?_
    simp only [qaM]
    exact ev_f (by simp only [decide_eq_false_iff_not]; omega) (zsF hp hc hcl hG hl hF hz hz2 hzb)
  | m + 1, i, F, z, hi, hF, hz, hz2, hzb => by
    have hi' : i < G.length := by omega
    have hg := hG _ (List.getElem_mem hi')
    have hl4 : (G.take i).length ≤ 4 := by simp; omega
    obtain ⟨m1, m2, m3, m4, hm0, hm1⟩ := zsE hp hg hF hl4 hz hz2
    have et : G.take i ++ [G[i]] = G.take (i + 1) := by rw [List.take_add_one, List.getElem?_eq_getElem hi']; rfl
    have em : (G.take i).map (modL p) ++ [modL p G[i]] = (G.take (i + 1)).map (modL p) := by rw [← et, List.map_append]; rfl
    have e1 : gi (G.map mkP) (i : Int) = some (mkP G[i]) := qsV (by simp [List.getElem?_eq_getElem hi'])
    have hF' := ztH hF hg (by omega)
    rw [et] at hF'
    have next : ∀ y, 0 ≤ y → y ≤ 128 → z ≤ y → maxA G[i] ≤ y → Ev (fun K => qaM K (.c2 c (mkI y) ((G.take (i + 1)).map (modL p)) p (mkP (tz (mulL F G[i]))) (G.map mkP) (G.map mkP) G.length i)) true := by
      intro y h1 h2 h3 h4
      refine qaJ ?_
      simp only [qaM]
      rw [qbR (by omega), show (i : Int) + 1 = ((i + 1 : Nat) : Int) by omega]
      refine zvY hp hc hcl hG hl m (i + 1) _ y (by omega) hF' h1 h2 fun g hg x hx => ?_
      rw [← et] at hg
      rcases List.mem_append.1 hg with hg | hg
      · have := hzb g hg x hx; omega
      · rw [List.mem_singleton.1 hg] at hx
        have := zs2 x hx; omega
    refine qaJ ?_
    simp only [qaM]
    refine ev_t (by simp only [decide_eq_true_eq]; omega) (qa3 e1 (qaG m1 (qaG m2 (qeZ (by rw [em]; simp; omega) (qaG m3 (qaG m4 ?_))))))
    rw [em]
    have hcc := qfX (maxA G[i]) z
    by_cases h : z < maxA G[i]
    · exact ev_t (by simp; omega) (next _ hm0 hm1 (by omega) (Int.le_refl _))
    · exact ev_f (by simp; omega) (next _ hz hz2 (Int.le_refl _) (by omega))
theorem ret_v1 (hp : Pr p) (hc : Dig c.Abs) (hcl : c.Abs.length ≤ 4) (hG : ∀ g ∈ G, Mo g) (hl : G.length ≤ 4) {F : List Int} (hF : Fk (ival c) [] F) :
    Ev (fun K => qaM K (.c1 c ⟨false, []⟩ p (mkP F) (G.map mkP) (G.map mkP) (G.map mkP).length 0)) true := by
  rw [← zh2, List.length_map]
  by_cases h0 : G.length = 0
  · have hn : G = [] := List.eq_nil_of_length_eq_zero h0
    subst hn
    refine qaJ ?_
    simp only [qaM]
    exact ev_f (by decide) (zsF (G := []) hp hc hcl hG hl hF (Int.le_refl 0) (by decide) (fun _ h => by cases h))
  · have hi' : 0 < G.length := by omega
    have hg := hG _ (List.getElem_mem hi')
    obtain ⟨m1, m2, m3, m4, hm0, hm1⟩ := zsE hp hg hF (by simp) (Int.le_refl 0) (by decide)
    have e1 : gi (G.map mkP) 0 = some (mkP G[0]) := by
      rw [ztC (by decide) (by simpa using hi')]; simp
    have et : [G[0]] = G.take (0 + 1) := by rw [List.take_add_one, List.getElem?_eq_getElem hi']; rfl
    have em : [modL p G[0]] = (G.take (0 + 1)).map (modL p) := by rw [← et]; rfl
    have hF' := ztH hF hg (by simp)
    rw [List.nil_append, et] at hF'
    have next : ∀ y, 0 ≤ y → y ≤ 128 → maxA G[0] ≤ y → Ev (fun K => qaM K (.c2 c (mkI y) ((G.take (0 + 1)).map (modL p)) p (mkP (tz (mulL F G[0]))) (G.map mkP) (G.map mkP) G.length 0)) true := by
      intro y h1 h2 h4
      refine qaJ ?_
      simp only [qaM]
      refine zvY hp hc hcl hG hl (G.length - 1) 1 _ y (by omega) hF' h1 h2 fun g hg x hx => ?_
      rw [← et] at hg
      rw [List.mem_singleton.1 hg] at hx
      have := zs2 x hx; omega
    refine qaJ ?_
    simp only [qaM]
    refine ev_t (by simp only [decide_eq_true_eq]; omega) (qa3 e1 (qaG m1 (qaG m2 (qaG m3 (qaG m4 ?_)))))
    rw [em]
    have hcc := qfX (maxA G[0]) 0
    by_cases h : 0 < maxA G[0]
    · exact ev_t (by simp; omega) (next _ hm0 hm1 (Int.le_refl _))
    · exact ev_f (by simp; omega) (next _ (Int.le_refl _) (by decide) (by omega))
end
theorem zvP {n : Int} (h : 0 ≤ n ∧ n < 256) : ∃ p, Pr p ∧ Ev (fun K => ql9 K n) p := by
  have hw : Int.tmod (wI6 n) ((6 : Nat) : Int) = n % 6 := by rw [qbR (by omega), Int.tmod_eq_emod_of_nonneg (by omega)]; rfl
  have key : ∃ p, Pr p ∧ gi ([(2 : Int), (3 : Int), (5 : Int), (7 : Int), (11 : Int), (13 : Int)] : List Int) (n % 6) = some p := by
    have h0 := Int.emod_nonneg n (show (6 : Int) ≠ 0 by decide)
    have h1 := Int.emod_lt_of_pos n (show (0 : Int) < 6 by decide)
    generalize n % 6 = r at h0 h1 ⊢
    have hr : r = 0 ∨ r = 1 ∨ r = 2 ∨ r = 3 ∨ r = 4 ∨ r = 5 := by omega
    rcases hr with rfl | rfl | rfl | rfl | rfl | rfl
    · exact ⟨2, .p2, rfl⟩
    · exact ⟨3, .p3, rfl⟩
    · exact ⟨5, .p5, rfl⟩
    · exact ⟨7, .p7, rfl⟩
    · exact ⟨11, .p11, rfl⟩
    · exact ⟨13, .p13, rfl⟩
  obtain ⟨p, hp, hg⟩ := key
  refine ⟨p, hp, qaJ ?_⟩
  simp only [ql9, qf7]
  rw [hw]
  exact qeZ (by decide) (qa3 hg (qaT _))
theorem zgA {c : qaB} {l : List qyA} {n : Int} (hc : Dig c.Abs) (hl : ∀ a ∈ l, A8 a) (hn : 0 ≤ n ∧ n < 256) : Ev (fun K => qjJ K c l n) true := by
  refine qaJ ?_
  simp only [qjJ, qaM]
  refine qaG zwE (ev_f rfl ?_)
  by_cases h4 : 4 < l.length
  · exact ev_t (by simp; omega) (qaT _)
  refine ev_f (by simp; omega) ?_
  by_cases h5 : 4 < c.Abs.length
  · exact ev_t (by simp; omega) (qaT _)
  refine ev_f (by simp; omega) ?_
  obtain ⟨p, hp, s1⟩ := zvP hn
  have hcv := zpG hc
  have hcb : ((ival c).natAbs : Int) < 4294967296 ^ 4 := by have := qq8 (show c.Abs.length ≤ 4 by omega); omega
  have ho : Ev (fun K => qiV K ([(1 : Int)] : List Int)) (mkP [1]) := qv3 [1] (by simp) (by simp)
  have hsc := qvD (f := mkP [1]) (c := c) (q8I (qm3 (n := 1) (l := [1]) (by omega) (by simp [Bd]))) ⟨hc, by omega⟩ (by rw [qc1]; simp) (by
    rw [qiI]
    refine q8I (qm3 (n := 4) (by omega) fun x hx => ?_)
    simp only [List.map_cons, List.map_nil, List.mem_singleton, Int.mul_one] at hx
    rw [hx]; omega)
  rw [qiI] at hsc
  simp only [List.map_cons, List.map_nil, Int.mul_one] at hsc
  obtain ⟨G, g1, g2, g3⟩ := zsT hl (by omega)
  exact qaG s1 (qaG ho (qaG hsc (qaG g1 (ret_v1 hp hc (by omega) g3 (by omega) (zxM hcb)))))
end Go.Am.X
namespace Go.Am
def zqG (P : Program) : Nat → List Field → Bool
  | _, [] => true
  | off, f :: fs => f.offset == off && zqG P (off + P.cellsOf f.type) fs
def znC (P : Program) : Nat → List Field → Nat
  | off, [] => off
  | off, f :: fs => znC P (off + P.cellsOf f.type) fs
def qwR (P : Program) : Nat → TypeId → Bool
  | 0, _ => false
  | n + 1, t => match P.underlying t with
    | some .bool => true
    | some (.int _) => true
    | some (.slice e) => decide (0 < P.cellsOf e) && qwR P n e
    | some (.struct fs) => zqG P 0 fs.toList && (znC P 0 fs.toList == P.cellsOf t) && fs.toList.all fun f => qwR P n f.type
    | some (.array m e) => (m * P.cellsOf e == P.cellsOf t) && qwR P n e
    | _ => false
def WtL (W : TypeId → List T → Prop) : List TypeId → List T → Prop
  | [], ts => ts = []
  | t :: r, ts => ∃ a b, ts = a ++ b ∧ W t a ∧ WtL W r b
def Wt (P : Program) : Nat → TypeId → List T → Prop
  | 0, _, _ => False
  | n + 1, t, ts => match P.underlying t with
    | some .bool => ∃ b, ts = [.bool b]
    | some (.int k) => ∃ m, ts = [.int k m] ∧ (Lit.int k m).wf = true
    | some (.slice e) => ∃ es, ts = [.sl (P.cellsOf e) es] ∧ es.length ≤ maxLen ∧ ∀ x ∈ es, Wt P n e x
    | some (.struct fs) => WtL (Wt P n) (fs.toList.map (·.type)) ts
    | some (.array m e) => WtL (Wt P n) (List.replicate m e) ts
    | _ => False
def RepL (w : World) (I : Nat → Nat → Prop) : List Value → List T → Prop
  | [], [] => True
  | v :: vs, t :: ts => Rep w I v t ∧ RepL w I vs ts
  | _, _ => False
theorem RepL.append {w : World} {I : Nat → Nat → Prop} : ∀ {a b : List Value} {x y : List T}, RepL w I a x → RepL w I b y → RepL w I (a ++ b) (x ++ y)
  | [], _, [], _, _, h => h
  | _ :: _, _, _ :: _, _, h, h' => ⟨h.1, h.2.append h'⟩
  | [], _, _ :: _, _, h, _ => h.elim
  | _ :: _, _, [], _, h, _ => h.elim
theorem RepL.length {w : World} {I : Nat → Nat → Prop} : ∀ {a : List Value} {x : List T}, RepL w I a x → a.length = x.length
  | [], [], _ => rfl
  | _ :: _, _ :: _, h => by simp [h.2.length]
  | [], _ :: _, h => h.elim
  | _ :: _, [], h => h.elim
theorem RepL.get {w : World} {I : Nat → Nat → Prop} : ∀ {a : List Value} {x : List T} {k : Nat} {v : Value} {t : T}, RepL w I a x → a[k]? = some v → x[k]? = some t → Rep w I v t
  | _ :: _, _ :: _, 0, _, _, h, h1, h2 => by simp at h1 h2; subst h1; subst h2; exact h.1
  | _ :: _, _ :: _, k + 1, _, _, h, h1, h2 => h.2.get (k := k) (by simpa using h1) (by simpa using h2)
  | [], [], _, _, _, _, h1, _ => by simp at h1
  | [], _ :: _, _, _, _, h, _, _ => h.elim
  | _ :: _, [], _, _, _, h, _, _ => h.elim
theorem RepL.crs {w : World} {I : Nat → Nat → Prop} {L : Loc} {H : List (Nat × Blk)} : ∀ {a : List Value} {x : List T}, RepL w I a x → CRs w L H I a (x.map .t)
  | [], [], _ => trivial
  | _ :: _, _ :: _, h => ⟨⟨h.1.one, h.1⟩, h.2.crs⟩
  | [], _ :: _, h => h.elim
  | _ :: _, [], h => h.elim
section
variable {H : Type} {enc : TypeId × Value → H} {P : Program} {w : World} {base : Nat} {held : Bool}
theorem tile {n : Nat} {I : Nat → Nat → Prop} (cs : List Value) : ∀ (fs : List Field) (off : Nat), zqG P off fs = true → cs.length = znC P off fs →
    (∀ f ∈ fs, ∃ ts, Wt P n f.type ts ∧ RepL w I ((cs.drop f.offset).take (P.cellsOf f.type)) ts) → ∃ ts, WtL (Wt P n) (fs.map (·.type)) ts ∧ RepL w I (cs.drop off) ts
  | [], off, _, hl, _ => ⟨[], rfl, by rw [List.drop_of_length_le (by simp only [znC] at hl; omega)]; trivial⟩
  | f :: fs, off, ht, hl, h => by
    simp only [zqG, Bool.and_eq_true, beq_iff_eq] at ht
    obtain ⟨a, h1, h2⟩ := h f (List.mem_cons_self ..)
    obtain ⟨b, h3, h4⟩ := tile cs fs (off + P.cellsOf f.type) ht.2 hl (fun g hg => h g (List.mem_cons_of_mem _ hg))
    refine ⟨a ++ b, ⟨a, b, rfl, h1, h3⟩, ?_⟩
    have e : cs.drop off = (cs.drop off).take (P.cellsOf f.type) ++ cs.drop (off + P.cellsOf f.type) := by rw [← List.drop_drop, List.take_append_drop]
    rw [e]
    rw [ht.1] at h2
    exact h2.append h4
theorem tileA {n c : Nat} {e : TypeId} {I : Nat → Nat → Prop} (cs : List Value) : ∀ (m i : Nat), cs.length = (i + m) * c →
    (∀ j, j < i + m → ∃ ts, Wt P n e ts ∧ RepL w I ((cs.drop (j * c)).take c) ts) → ∃ ts, WtL (Wt P n) (List.replicate m e) ts ∧ RepL w I (cs.drop (i * c)) ts
  | 0, i, hl, _ => ⟨[], rfl, by rw [List.drop_of_length_le (by rw [hl]; simp)]; trivial⟩
  | m + 1, i, hl, h => by
    obtain ⟨a, h1, h2⟩ := h i (by omega)
    obtain ⟨b, h3, h4⟩ := tileA cs m (i + 1) (by rw [hl]; congr 1; omega) (fun j hj => h j (by omega))
    refine ⟨a ++ b, ⟨a, b, rfl, h1, h3⟩, ?_⟩
    have e : cs.drop (i * c) = (cs.drop (i * c)).take c ++ cs.drop ((i + 1) * c) := by rw [Nat.add_mul, Nat.one_mul, ← List.drop_drop, List.take_append_drop]
    rw [e]
    exact h2.append h4
theorem zo5 {a : Addr} {v : Value} (h : w.cell? a = some v) : a.spot = none ∧ a.block < w.heap.size := by
  unfold World.cell? at h
  split at h
  · rename_i hg
    split at h
    · cases h
    · rename_i hs
      exact ⟨by simpa using hs, (Array.getElem?_eq_some_iff.1 hg).1⟩
  · cases h
theorem q4O : ∀ (n : Nat) (t : TypeId) (fuel : Nat) (cs : List Value) (x : DataW H × List MemPlace), qwR P n t = true → DataW.trod enc P w 0 (fun _ => true) held fuel t cs = some x →
    ∃ ts, Wt P n t ts ∧ RepL w (fun b _ => b < w.heap.size) cs ts
  | 0, _, _, _, _, hp, _ => by cases hp
  | n + 1, t, fuel, cs, x, hp, h => by
    unfold qwR at hp
    unfold Wt
    split at hp
    · rename_i hu
      obtain ⟨b, rfl, rfl⟩ := DataW.trod_bool hu h
      exact ⟨_, ⟨b, rfl⟩, .bool b, trivial⟩
    · rename_i k hu
      obtain ⟨m, rfl, rfl, hw⟩ := DataW.trod_int hu h
      exact ⟨_, ⟨m, rfl, hw⟩, .int k m, trivial⟩
    · rename_i e hu
      simp only [Bool.and_eq_true, decide_eq_true_eq] at hp
      rcases Deep.open_slice hu h with ⟨rfl, _⟩ | ⟨a, len, cap, m, n', D, Pl, rfl, _, hlc, hcm, hm, _, hel⟩
      · exact ⟨_, ⟨[], rfl, Nat.zero_le _, by simp⟩, .nil _, trivial⟩
      · simp only [if_true] at hm
        subst hm
        by_cases hc : m = 0
        · subst hc
          have : len = 0 := by omega
          subst this
          exact ⟨_, ⟨[], rfl, Nat.zero_le _, by simp⟩, .emp a _, trivial⟩
        · obtain ⟨cs0, h0, _⟩ := hel 0 (by omega)
          obtain ⟨_, hl0, hg0⟩ := World.cells?_some h0
          have hsp : a.spot = none := by
            have hz := hg0 0 hp.1
            rw [List.getElem?_eq_getElem (by omega), Nat.zero_mul] at hz
            simp only [Addr.add, if_true] at hz
            exact (zo5 hz).1
          obtain ⟨b, off, sp⟩ := a
          simp only at hsp
          subst hsp
          obtain ⟨f, hf⟩ := Deep.choose_lt (α := List Value × List T) (n := len) (p := fun i y => w.cells? 0 ((⟨b, off, none⟩ : Addr).add (i * P.cellsOf e)) (P.cellsOf e) = some y.1 ∧ Wt P n e y.2 ∧ RepL w (fun b _ => b < w.heap.size) y.1 y.2) (fun i hi => by
            obtain ⟨cs', h1, h2⟩ := hel i (by omega)
            obtain ⟨ts, h3, h4⟩ := q4O n e n' cs' _ hp.2 h2
            exact ⟨(cs', ts), h1, h3, h4⟩)
          have hlen : ∀ i, i < len → (f i).1.length = P.cellsOf e ∧ (f i).2.length = P.cellsOf e := fun i hi => by
            obtain ⟨g1, _, g3⟩ := hf i hi
            have := (World.cells?_some g1).2.1
            exact ⟨this, by rw [← g3.length, this]⟩
          have hcell : ∀ i k, i < len → k < P.cellsOf e → w.cell? ⟨b, off + i * P.cellsOf e + k, none⟩ = some ((f i).1.getD k undef) := fun i k hi hk => by
            obtain ⟨g1, _, _⟩ := hf i hi
            have := (World.cells?_some g1).2.2 k hk
            rw [qs6, qs6] at this
            rw [this, List.getD, List.getElem?_eq_getElem (by rw [(hlen i hi).1]; exact hk)]
            rfl
          refine ⟨_, ⟨(List.range len).map fun i => (f i).2, rfl, by simp; omega, ?_⟩, ?_, trivial⟩
          · intro y hy
            obtain ⟨i, hi, rfl⟩ := List.mem_map.1 hy
            exact (hf i (List.mem_range.1 hi)).2.1
          · refine .sl b off len m _ _ (fun i k => (f i).1.getD k undef) (fun i k => (f i).2.getD k (.bool false)) (by simp) hlc ?_ ?_ ?_ hcell ?_
            · intro y hy
              obtain ⟨i, hi, rfl⟩ := List.mem_map.1 hy
              exact (hlen i (List.mem_range.1 hi)).2
            · intro i k y hy hk
              rw [List.getElem?_map] at hy
              obtain ⟨j, hj, rfl⟩ := Option.map_eq_some_iff.1 hy
              obtain ⟨hj1, hj2⟩ := List.getElem?_eq_some_iff.1 hj
              simp only [List.length_range] at hj1
              simp only [List.getElem_range] at hj2
              subst hj2
              rw [List.getD, List.getElem?_eq_getElem (by rw [(hlen i hj1).2]; exact hk)]
              rfl
            · intro i k hi hk
              exact (zo5 (hcell i k hi hk)).2
            · intro i k hi hk
              refine (hf i hi).2.2.get (k := k) ?_ ?_
              · rw [List.getD, List.getElem?_eq_getElem (by rw [(hlen i hi).1]; exact hk)]; rfl
              · rw [List.getD, List.getElem?_eq_getElem (by rw [(hlen i hi).2]; exact hk)]; rfl
    · rename_i fs hu
      simp only [Bool.and_eq_true, beq_iff_eq, List.all_eq_true] at hp
      obtain ⟨xs, n', _, _, hl, hxl, hx⟩ := DataW.trod_struct hu h
      have := tile (w := w) (n := n) (I := fun b _ => b < w.heap.size) cs fs.toList 0 hp.1.1 (by rw [hl, hp.1.2]) (fun f hf => by
        obtain ⟨i, hi, hif⟩ := List.getElem_of_mem hf
        have h1 := hx i f (by rw [← Array.getElem?_toList, List.getElem?_eq_getElem hi, hif])
        rw [List.getElem?_eq_getElem (by rw [hxl]; simpa using hi)] at h1
        exact q4O n f.type n' _ _ (hp.2 f hf) h1)
      rw [List.drop_zero] at this
      exact this
    · rename_i m e hu
      simp only [Bool.and_eq_true, beq_iff_eq] at hp
      obtain ⟨xs, n', _, _, hl, hxl, hx⟩ := DataW.trod_array hu h
      have := tileA (w := w) (n := n) (e := e) (c := P.cellsOf e) (I := fun b _ => b < w.heap.size) cs m 0 (by rw [hl, Nat.zero_add, hp.1]) (fun j hj => by
        have h1 := hx j (by omega)
        rw [List.getElem?_eq_getElem (by omega)] at h1
        exact q4O n e n' _ _ hp.2 h1)
      rw [Nat.zero_mul, List.drop_zero] at this
      exact this
    · cases hp
def zrI : List T → TV
  | [x] => .c x
  | ts => .agg ts
def tvOf (P : Program) (t : TypeId) (ts : List T) : TV := match P.underlying t with
  | some (.struct _) | some (.array _ _) => .agg ts
  | _ => zrI ts
theorem q83 {n : Nat} {t : TypeId} {v : Value} {d : DataW H} {ps : List MemPlace} {r : Reach} (hp : qwR P n t = true) (hv : Value.okWide P w r base t v)
    (h : DataW.Trod enc P w 0 (fun _ => true) held t v d ps) : ∃ ts, Wt P n t ts ∧ TVR w (fun b _ => b < w.heap.size) v (tvOf P t ts) := by
  obtain ⟨fuel, h⟩ := h
  obtain ⟨ts, h1, h2⟩ := q4O n t fuel _ _ hp h
  refine ⟨ts, h1, ?_⟩
  have agg : (∃ cs : Array Value, v = .agg cs) → TVR w (fun b _ => b < w.heap.size) v (.agg ts) := by
    rintro ⟨cs, rfl⟩
    exact ⟨cs, rfl, h2.crs⟩
  have one : (∀ cs : Array Value, v ≠ .agg cs) → TVR w (fun b _ => b < w.heap.size) v (zrI ts) := by
    intro hne
    clear agg h1
    have hc : v.cells.toList = [v] := by
      cases v <;> first | rfl | exact absurd rfl (hne _)
    rw [hc] at h2
    match ts, h2 with
    | [x], h2 => exact h2.1
    | [], h2 => exact h2.elim
    | _ :: _ :: _, h2 => exact h2.2.elim
  unfold qwR at hp
  unfold tvOf
  unfold Value.okWide at hv
  cases n with
  | zero => cases hp
  | succ n =>
    simp only at hp
    split at hp
    · rename_i hu
      simp only [hu] at hv ⊢
      refine one fun cs e => ?_
      subst e
      simp [Cell.okWide, Cell.ok, hu] at hv
    · rename_i k hu
      simp only [hu] at hv ⊢
      refine one fun cs e => ?_
      subst e
      simp [Cell.okWide, Cell.ok, hu] at hv
    · rename_i k hu
      simp only [hu] at hv ⊢
      refine one fun cs e => ?_
      subst e
      simp [Cell.okWide, Cell.ok, hu] at hv
    · rename_i k hu
      simp only [hu] at hv ⊢
      obtain ⟨cs, rfl, _⟩ := hv
      exact agg ⟨cs, rfl⟩
    · rename_i m k hu
      simp only [hu] at hv ⊢
      obtain ⟨cs, rfl, _⟩ := hv
      exact agg ⟨cs, rfl⟩
    · cases hp
end
open Go.RowKit (Below)
section
variable {H : Type} {enc : TypeId × Value → H} {P : Program} {W : World} {r : Reach} {base n : Nat} {held : Bool} {t0 t1 t2 : TypeId} {v0 v1 v2 : Value} {d0 d1 d2 : DataW H} {p0 p1 p2 : List MemPlace}
theorem open3 (n0 : qwR P n t0 = true) (n1 : qwR P n t1 = true) (n2 : qwR P n t2 = true) (h : ∀ (j : Nat) t v, #[t0, t1, t2][j]? = some t → #[v0, v1, v2][j]? = some v → Value.okWide P W r base t v)
    (h0 : DataW.Trod enc P W 0 (fun _ => true) held t0 v0 d0 p0) (h1 : DataW.Trod enc P W 0 (fun _ => true) held t1 v1 d1 p1) (h2 : DataW.Trod enc P W 0 (fun _ => true) held t2 v2 d2 p2) :
    (∃ ts, Wt P n t0 ts ∧ TVR W (fun b _ => b < W.heap.size) v0 (tvOf P t0 ts)) ∧ (∃ ts, Wt P n t1 ts ∧ TVR W (fun b _ => b < W.heap.size) v1 (tvOf P t1 ts)) ∧ (∃ ts, Wt P n t2 ts ∧ TVR W (fun b _ => b < W.heap.size) v2 (tvOf P t2 ts)) :=
  ⟨q83 n0 (h 0 t0 v0 rfl rfl) h0, q83 n1 (h 1 t1 v1 rfl rfl) h1, q83 n2 (h 2 t2 v2 rfl rfl) h2⟩
end
theorem zrV {P : Program} {f : FuncId} {args : List TV} {W : World} {vs : List Value} (h : qc5 P f args (.c (.bool true))) (hv : TVRs W (fun b _ => b < W.heap.size) vs args) :
    Calls P f vs.toArray W fun e w' => e = .returned (.bool true) ∧ Below W.heap.size W w' := by
  refine (h _ W vs (fun _ _ h => h) hv).mono fun e w' ⟨v, he, hB, I', _, _, _, hr⟩ => ⟨?_, hB⟩
  have : Rep w' I' v (.bool true) := hr
  cases this
  exact he
theorem zm6 {α : Type} {P : Program} {n : Nat} {e : TypeId} {ce : α → List T} {good : α → Prop} (h : ∀ ts, Wt P n e ts → ∃ a, ts = ce a ∧ good a) :
    ∀ es : List (List T), (∀ x ∈ es, Wt P n e x) → ∃ l : List α, es = l.map ce ∧ ∀ a ∈ l, good a
  | [], _ => ⟨[], rfl, fun _ h => by cases h⟩
  | x :: es, hx => by
    obtain ⟨a, rfl, ga⟩ := h x (hx x (List.mem_cons_self ..))
    obtain ⟨l, rfl, gl⟩ := zm6 h es fun y hy => hx y (List.mem_cons_of_mem _ hy)
    exact ⟨a :: l, rfl, fun b hb => (List.mem_cons.1 hb).elim (fun e => e ▸ ga) (gl b)⟩
end Go.Am
namespace Go.Am.X
open Go.Proofs
theorem wt_u32 {n : Nat} {t : TypeId} (ht : Try.prog.underlying t = some (.int .u32)) {ts : List T} (h : Wt Try.prog n t ts) : ∃ x, ts = qaC x ∧ 0 ≤ x ∧ x < 4294967296 := by
  cases n with
  | zero => exact h.elim
  | succ n =>
    simp only [Wt, ht] at h
    obtain ⟨m, rfl, hw⟩ := h
    have hx : 0 ≤ m ∧ m ≤ 4294967295 := by simpa [Lit.wf, IntKind.min, IntKind.max, IntKind.signed, IntKind.bits] using hw
    exact ⟨m, rfl, by omega⟩
theorem zvJ : Try.prog.cellsOf 101 = 1 := by kernel_rfl
theorem wt_nat {n : Nat} {ts : List T} (h : Wt Try.prog n 43 ts) : ∃ l, ts = qaF l ∧ Dig l ∧ l.length ≤ maxLen := by
  cases n with
  | zero => exact h.elim
  | succ n =>
    simp only [Wt, Try.underlying43] at h
    obtain ⟨es, rfl, hl, hx⟩ := h
    obtain ⟨l, rfl, hg⟩ := zm6 (ce := qaC) (good := fun x => 0 ≤ x ∧ x < 4294967296) (fun ts h => wt_u32 Try.underlying101 h) es hx
    exact ⟨l, by rw [zvJ]; rfl, hg, by simpa using hl⟩
theorem zw0 {n : Nat} {ts : List T} (h : Wt Try.prog n 4 ts) : ∃ b, ts = zxS b := by
  cases n with
  | zero => exact h.elim
  | succ n =>
    simp only [Wt, Try.underlying4] at h
    obtain ⟨b, rfl⟩ := h
    exact ⟨b, rfl⟩
theorem zvT {n : Nat} {ts : List T} (h : Wt Try.prog n 45 ts) : ∃ a : qaB, ts = qaA a ∧ Dig a.Abs ∧ a.Abs.length ≤ maxLen := by
  cases n with
  | zero => exact h.elim
  | succ n =>
    simp only [Wt, Try.underlying45] at h
    obtain ⟨a, b, rfl, h1, c, d, rfl, h2, rfl⟩ := h
    obtain ⟨s, rfl⟩ := zw0 h1
    obtain ⟨l, rfl, h3, h4⟩ := wt_nat h2
    exact ⟨⟨s, l⟩, rfl, h3, h4⟩
theorem own : ownKnob Try.prog.godebug = none := by kernel_rfl
theorem zpT : laidOutB Try.prog = true := by kernel_rfl
theorem tv45 (b : qaB) : tvOf Try.prog 45 (qaA b) = .agg (qaA b) := by simp only [tvOf, Try.underlying45]
open Go.Proofs
theorem zwZ {n : Nat} {ts : List T} (h : Wt Try.prog n 25 ts) : ∃ x, ts = [T.int .i8 x] ∧ -128 ≤ x ∧ x ≤ 127 := by
  cases n with
  | zero => exact h.elim
  | succ n =>
    simp only [Wt, Try.underlying25] at h
    obtain ⟨m, rfl, hw⟩ := h
    have hx : -128 ≤ m ∧ m ≤ 127 := by simpa [Lit.wf, IntKind.min, IntKind.max, IntKind.signed, IntKind.bits] using hw
    exact ⟨m, rfl, by omega⟩
theorem wt_A3 {n : Nat} {ts : List T} (h : Wt Try.prog n 169 ts) : ∃ a : qyA, ts = qgV a ∧ A8 a := by
  cases n with
  | zero => exact h.elim
  | succ n =>
    simp only [Wt, Try.underlying169] at h
    obtain ⟨a, b, rfl, h1, c, d, rfl, h2, e, f, rfl, h3, rfl⟩ := h
    obtain ⟨x, rfl, hx⟩ := zwZ h1
    obtain ⟨y, rfl, hy⟩ := zwZ h2
    obtain ⟨z, rfl, hz⟩ := zwZ h3
    exact ⟨⟨x, y, z⟩, rfl, hx, hy, hz⟩
theorem zvI : Try.prog.cellsOf 169 = 3 := by kernel_rfl
theorem wt_LA3 {n : Nat} {ts : List T} (h : Wt Try.prog n 109 ts) : ∃ l : List qyA, ts = zjY l ∧ (∀ a ∈ l, A8 a) ∧ l.length ≤ maxLen := by
  cases n with
  | zero => exact h.elim
  | succ n =>
    simp only [Wt, Try.underlying109] at h
    obtain ⟨es, rfl, hl, hx⟩ := h
    obtain ⟨l, rfl, hg⟩ := zm6 (ce := qgV) (good := A8) (fun ts h => wt_A3 h) es hx
    exact ⟨l, by rw [zvI]; rfl, hg, by simpa using hl⟩
theorem wt_u8 {n : Nat} {ts : List T} (h : Wt Try.prog n 5 ts) : ∃ x, ts = [T.int .u8 x] ∧ 0 ≤ x ∧ x < 256 := by
  cases n with
  | zero => exact h.elim
  | succ n =>
    simp only [Wt, Try.underlying5] at h
    obtain ⟨m, rfl, hw⟩ := h
    have hx : 0 ≤ m ∧ m ≤ 255 := by simpa [Lit.wf, IntKind.min, IntKind.max, IntKind.signed, IntKind.bits] using hw
    exact ⟨m, rfl, by omega⟩
theorem tv109 (f : List qyA) : tvOf Try.prog 109 (zjY f) = .c (.sl 3 (f.map qgV)) := by simp only [tvOf, Try.underlying109, zrI, zjY]
theorem tv5 (x : Int) : tvOf Try.prog 5 [T.int .u8 x] = .c (.int .u8 x) := by simp only [tvOf, Try.underlying5, zrI]
end Go.Am.X
namespace Go.Proofs.Yteciehfkhmbfeaa.henselReturns
open Go.ChangeShapes Go.WideShapes Go.ChangeAt Go.RowKit Go.Am Go.Am.X
set_option maxRecDepth 100000 in
theorem contract (H : Type) (enc : TypeId × Value → H) (W : World) (base : Nat) (args : Array Value) (ds gs : List (DataW H)) (before : List MemPlace)
    (hval : ∀ (j : Nat) t v, Try.f11.params[j]? = some t → args[j]? = some v → Value.okWide Try.prog W .any base t v)
    (hW : DataW.Whole enc Try.prog Try.f11.params.toList Rows.henselReturnsSpec.vars false W args.toList ds gs before) :
    Calls Try.prog 11 args W fun e W' => ∃ v, e = .returned v ∧ Rows.henselReturnsSpec.post enc Try.prog Try.f11 false true false false W args v W' := by
  have hW' := hW
  obtain ⟨p, q, hA0, hV, rfl, hfz, hnd⟩ := hW
  have hA : DataW.TrodAll enc Try.prog W 0 (fun _ => true) true Try.f11.params.toList args.toList ds p := hA0
  rw [Try.params11] at hA hval
  obtain ⟨v0, vs0, d0, ds0, p0, q0, hargs, rfl, rfl, h0, r0⟩ := trodAll_cons hA
  obtain ⟨v1, vs1, d1, ds1, p1, q1, rfl, rfl, rfl, h1, r1⟩ := trodAll_cons r0
  obtain ⟨v2, vs2, d2, ds2, p2, q2, rfl, rfl, rfl, h2, r2⟩ := trodAll_cons r1
  obtain ⟨rfl, rfl, rfl⟩ := trodAll_nil r2
  obtain rfl : args = #[v0, v1, v2] := by cases args; simp_all
  obtain ⟨rfl, rfl⟩ := trodVars_none hV
  obtain ⟨n, n0, n1, n2⟩ : ∃ n, qwR Try.prog n 45 = true ∧ qwR Try.prog n 109 = true ∧ qwR Try.prog n 5 = true := ⟨5, by kernel_rfl, by kernel_rfl, by kernel_rfl⟩
  obtain ⟨⟨ts0, w0, g0⟩, ⟨ts1, w1, g1⟩, ⟨ts2, w2, g2⟩⟩ := open3 n0 n1 n2 @hval h0 h1 h2
  obtain ⟨c, rfl, hc, _⟩ := zvT w0
  obtain ⟨l, rfl, hl, _⟩ := wt_LA3 w1
  obtain ⟨m, rfl, hm⟩ := wt_u8 w2
  rw [tv45] at g0
  rw [tv109] at g1
  rw [tv5] at g2
  obtain ⟨K, hK⟩ := zgA hc hl hm
  have hh := qs1 (hK K (Nat.le_refl _))
  have hlt := hW'.lt
  simp only [List.append_nil] at hW' hlt
  refine (zrV (vs := [v0, v1, v2]) hh ⟨g0, g1, g2, trivial⟩).mono fun e W' ⟨he, hB⟩ => ?_
  subst he
  refine ⟨_, rfl, _, _, _, [], p0 ++ (p1 ++ p2), [], hW', trodAll_cons_mk (shut_bool Try.underlying4 _) trodAll_mk0, ?_, rfl, hB.frame _, fun h => by cases h⟩
  rw [Try.params11]
  have := trodAll_cons_mk (Below.trod zpT (by kernel_rfl) (of_decide_eq_true (by kernel_rfl)) h0 hB (fun x hx => hlt x (List.mem_append_left _ hx)))
    (trodAll_cons_mk (Below.trod zpT (by kernel_rfl) (of_decide_eq_true (by kernel_rfl)) h1 hB (fun x hx => hlt x (List.mem_append_right _ (List.mem_append_left _ hx))))
      (trodAll_cons_mk (Below.trod zpT (by kernel_rfl) (of_decide_eq_true (by kernel_rfl)) h2 hB (fun x hx => hlt x (List.mem_append_right _ (List.mem_append_right _ hx)))) trodAll_mk0))
  rw [List.append_nil] at this
  exact this
set_option maxRecDepth 100000 in
theorem lifted (os : Os) (started : os.Started) (H : Type) (enc : TypeId × Value → H) (F : Stop.Interp) :
    ReturnsInHanded {} Try.checked os 11 .any ((Rows.OpenSpec.upto Rows.henselReturnsSpec).pre6 enc Try.prog Try.f11 Rows.henselReturnsUptoRow.domain false) (((Rows.OpenSpec.upto Rows.henselReturnsSpec).at F).post enc Try.prog Try.f11 false true false false) := by
  refine returnsInHanded_of_cond (C := Try.checked) (s := Rows.OpenSpec.upto Rows.henselReturnsSpec) (k := Rows.uptoSmall) rfl own started (by kernel_rfl) Try.func11
    (OpenSpec.witness (enc := enc) (C := Try.checked) (s := Rows.OpenSpec.upto Rows.henselReturnsSpec) (k := Rows.uptoSmall) rfl false ⟨#[], #[.agg #[.bool false, .slice none 0 0], .slice none 0 0, .int .u8 0], []⟩ 8 (by kernel_rfl) (by kernel_rfl) (by kernel_rfl)
      (x := ([.agg [.lit (.bool false), .nil], .nil, .lit (.int .u8 0)], [], [])) (by kernel_rfl) rfl (by kernel_rfl)) ?_
  intro W base args ds gs before hval hW _ hk _
  exact contract H enc W base args ds gs before hval hW
theorem over : Rows.henselReturnsUptoRow.holds Try.pinned (Rows.OpenSpec.upto Rows.henselReturnsSpec) :=
  OpenClaim.holds_of_cond 11 Try.f11 rfl rfl rfl rfl rfl rfl rfl ⟨rfl, rfl, rfl, rfl, rfl⟩ rfl rfl rfl rfl rfl (by kernel_rfl) Try.func11 (by kernel_rfl)
    (of_decide_eq_true (by kernel_rfl)) (by unfold Func.isWrapper; first | (rw [if_pos (by decide +kernel)]; kernel_rfl) | (rw [if_neg (by decide +kernel)]; exact ⟨rfl, rfl⟩))
    (fun os started H enc _ F => lifted os started H enc F)
theorem proved : Rows.HenselReturnsUptoSaid :=
  over
end Go.Proofs.Yteciehfkhmbfeaa.henselReturns
