/- The contract of made: a history out of numbers. -/
import Derived.Test.YtknfkibnocfjiaaDoorGMadeB
import Derived.Test.YtknfkibnocfjiaaDoorGTail
namespace Go.Proofs.YtknfkibnocfjiaaDoor.P
open Go.RowKit Go.Proofs.YtknfkibnocfjiaaDoorW.PrintWords Go.Proofs.YtknfkibnocfjiaaDoorW.PrintLast Go.Proofs.YtknfkibnocfjiaaDoorW.PrintMore Go.Proofs.YtknfkibnocfjiaaDoor.M
set_option linter.unusedVariables false
set_option linter.unusedSimpArgs false

theorem validM_bd {m : S25} (h : validM m = true) : (1 ≤ m.f0 ∧ m.f0 ≤ 1000) ∧ (3 ≤ m.f1 ∧ m.f1 ≤ 6) ∧ (1 ≤ m.f2 ∧ m.f2 ≤ 10000) ∧ (0 ≤ m.f3 ∧ m.f3 ≤ 100) ∧ 0 ≤ m.f4.f0 ∧ m.f4.f0 < m.f4.f1 ∧ m.f4.f1 ≤ 36525 := by
  unfold validM inB stretchB at h
  simp only [Bool.and_eq_true, decide_eq_true_eq] at h
  omega

/-- The row read ahead of day i. -/
def dRow (m : S25) (rd : List Bool) (n i : Nat) : List Bool := (List.range i).map (rAt m rd) ++ List.replicate (n + 1 - i) false
theorem dRow_len (m : S25) (rd : List Bool) {n i : Nat} (h : i ≤ n) : (dRow m rd n i).length = n + 1 := by simp [dRow]; omega
theorem dRow_set (m : S25) (rd : List Bool) {n i : Nat} (h : i ≤ n) (b : Bool) (hb : rAt m rd i = b) : (dRow m rd n i).set i b = dRow m rd n (i + 1) := by
  subst hb
  unfold dRow
  rw [List.range_succ, List.map_append, show n + 1 - i = (n + 1 - (i + 1)) + 1 by omega, List.replicate_succ, List.append_assoc]
  rw [List.set_append_right _ _ (by simp)]
  simp
theorem dRow_set2 (m : S25) (rd : List Bool) {n i : Nat} (h : i ≤ n) (a b : Bool) (hb : rAt m rd i = b) : ((dRow m rd n i).set i a).set i b = dRow m rd n (i + 1) := by
  rw [List.set_set]; exact dRow_set m rd h b hb
theorem sAt_bd {m : S25} (h : 1 ≤ m.f2) (sh : List Int) (k : Nat) : 0 ≤ sAt m sh k ∧ sAt m sh k ≤ m.f2 := by
  unfold sAt
  have h1 := Int.emod_nonneg (sh.getD k 0) (show m.f2 + 1 ≠ 0 by omega)
  have h2 := Int.emod_lt_of_pos (sh.getD k 0) (show 0 < m.f2 + 1 by omega)
  omega
theorem atS_bd {m : S25} (h : 1 ≤ m.f2 ∧ m.f2 ≤ 10000) {st : Int} (hs : 0 ≤ st ∧ st ≤ 65535) (sh : List Int) : ∀ k : Nat, 0 ≤ atS m st sh k ∧ atS m st sh k ≤ 65535 + 10000 * k
  | 0 => by simp [atS]; omega
  | k + 1 => by
    have h1 := atS_bd h hs sh k
    have h2 := sAt_bd h.1 sh k
    simp only [atS]
    omega
theorem rowR_len (m : S25) (st : Int) (sh : List Int) (rd : List Bool) : ∀ k, (rowR m st sh rd k).length ≤ k
  | 0 => Nat.le_refl _
  | k + 1 => by
    have := rowR_len m st sh rd k
    simp only [rowR, List.length_append]
    split <;> simp <;> omega
theorem lohi {m : S25} (hd : 0 ≤ m.f3 ∧ m.f3 ≤ 100) {s : Int} (h0 : 0 ≤ s) (h1 : s ≤ 10000) : 0 ≤ loS m s ∧ loS m s ≤ s ∧ s ≤ hiS m s ∧ hiS m s ≤ 10000000 := by
  have hsd : 0 ≤ s * m.f3 := Int.mul_nonneg h0 hd.1
  refine ⟨?_, ?_, ?_, ?_⟩
  · exact Int.ediv_nonneg (by omega) (by omega)
  · have : loS m s < s + 1 := by
      unfold loS
      refine Int.ediv_lt_of_lt_mul (by omega) ?_
      have e : (s + 1) * (1000 + m.f3) = 1000 * s + s * m.f3 + 1000 + m.f3 := by rw [Int.add_mul, Int.mul_add, Int.one_mul]; omega
      omega
    omega
  · unfold hiS
    refine Int.le_ediv_of_mul_le (by omega) ?_
    have e : s * (1000 - m.f3) = 1000 * s - s * m.f3 := by rw [Int.mul_sub]; omega
    omega
  · have := Int.ediv_le_self (b := 1000 - m.f3) (show 0 ≤ 1000 * s by omega)
    unfold hiS; omega
def intR (x : Int) (cs : List Value) : Prop := cs = [.int .i64 x]
theorem intR_M {W : World} {base : Nat} {okp : Nat → Prop} (x : Int) (cs : List Value) (h : intR x cs) : (Kd.int .i64).M W base okp x cs := h
theorem int_one {W : World} {b : Nat} {fr : Nat × Nat} (x : Int) (h : W.heap[b]? = some (.cells #[.int .i64 x] 3 fr)) : ReadsRow intR (Kd.int .i64).sz W (some ⟨b, 0, none⟩) 1 [x] := by
  refine ⟨rfl, by decide, fun _ => ⟨_, rfl, fun j p hj => ?_⟩⟩
  have hj0 : j = 0 := by
    have := (List.getElem?_eq_some_iff.1 hj).1
    simp at this; exact this
  subst hj0
  obtain rfl : x = p := by simpa using hj
  refine ⟨[.int .i64 x], rfl, rfl, fun i u hu => ?_⟩
  rw [Nat.zero_mul, Nat.zero_add, add_plain]
  simp only [World.cell?, h]
  simpa using hu
theorem infoB : (Tryd.prog.info? 4).map (fun i => (i.zero, i.size, i.bytes)) = some (some (.bool false), 1, 1) := by kernel_rfl
theorem infoZ : (Tryd.prog.info? 3).map (fun i => (i.zero, i.size, i.bytes)) = some (some (.int .i64 0), 1, 8) := by kernel_rfl
set_option maxHeartbeats 16000000 in
set_option maxRecDepth 100000 in
theorem made_yes (m : S25) (u0 : Int) (st : Int) (A2 : Option Addr) (c2 : Nat) (sh : List Int) (A3 : Option Addr) (c3 : Nat) (sl : List Int) (A4 : Option Addr) (c4 : Nat) (rd : List Bool) (w : World)
    (hr2 : (Kd.int .u16).C w A2 sh.length sh) (hc2 : sh.length ≤ c2) (hr3 : (Kd.int .u8).C w A3 sl.length sl) (hc3 : sl.length ≤ c3) (hr4 : Kd.bool.C w A4 rd.length rd) (hc4 : rd.length ≤ c4)
    (hst : 0 ≤ st ∧ st ≤ 65535) (hsh : ∀ x ∈ sh, 0 ≤ x ∧ x ≤ 65535) (hsl : ∀ x ∈ sl, 0 ≤ x ∧ x ≤ 255) (hll : sl.length ≤ maxLen) (hlr : rd.length ≤ maxLen)
    (hn : 1 ≤ sh.length ∧ sh.length ≤ 30) (hm : m.f4.f1 = m.f4.f0 + sh.length) (hv : validM m = true) (hf : m.f4.f0 ≤ 36524) :
    Calls Tryd.prog 22 #[.agg #[.int .i64 m.f0, .int .i64 m.f1, .int .i64 m.f2, .int .i64 m.f3, .int .i64 m.f4.f0, .int .i64 u0], .int .u16 st, .slice A2 sh.length c2, .slice A3 sl.length c3, .slice A4 rd.length c4] w
      fun e w' => ∃ vS vC vR vD, e = .returned (.tuple #[.agg (cH m vS vC vR vD), .bool true]) ∧ (Kd.int .i64).R 3 w' w.heap.size (fun _ => True) vS ((List.range sh.length).map (sAt m sh)) ∧
        (Kd.int .i64).R 3 w' w.heap.size (fun _ => True) vC ((List.range sh.length).map (cAt m sh sl)) ∧ Kd.R k43 43 w' w.heap.size (fun _ => True) vR (rowR m st sh rd (sh.length + 1)) ∧
        Kd.bool.R 4 w' w.heap.size (fun _ => True) vD ((List.range (sh.length + 1)).map (rAt m rd)) ∧ Below w.heap.size w w' := by
  have hu25 := Tryd.underlying25
  have hu23 := Tryd.underlying23
  have hu53 := Tryd.underlying53
  have hbd := validM_bd hv
  have HR2 := Aside0.mk hr2
  have HR3 := Aside0.mk hr3
  have HR4 := Aside0.mk hr4
  have HSH := Aside0.mk hsh
  have HSL := Aside0.mk hsl
  have HLL := Aside0.mk (And.intro hll hlr)
  have HST := Aside0.mk hst
  have HV := Aside0.mk hv
  have HBD := Aside0.mk hbd
  have HC : Aside0 (∀ W, Calls Tryd.prog 31 #[.agg #[.int .i64 m.f0, .int .i64 m.f1, .int .i64 m.f2, .int .i64 m.f3, .int .i64 m.f4.f0, .int .i64 (m.f4.f0 + sh.length)]] W fun e w' => e = .returned (.bool true) ∧ Below W.heap.size W w') :=
    ⟨fun W => by have := rmeter_calls m true hv W; rwa [hm] at this⟩
  clear hr2 hr3 hr4 hsh hsl hst hv hll hlr
  have hw : IntKind.i64.wrap (m.f4.f0 + (sh.length : Int)) = m.f4.f0 + (sh.length : Int) := Go.IntWalk.i64_in _ (by omega)
  have hwn : IntKind.i64.wrap ((sh.length : Int) + 1) = (sh.length : Int) + 1 := Go.IntWalk.i64_in _ (by omega)
  have g1 : decide ((sh.length : Int) < 1) = false := decide_eq_false (by omega)
  have g2 : decide (30 < (sh.length : Int)) = false := decide_eq_false (by omega)
  have g3 : decide (36524 < m.f4.f0) = false := decide_eq_false (by omega)
  go_enter Tryd.func22, Tryd.ntmps22
  go_wp2_with (first | (go_at_call 31; (with_reducible refine (HC.out _).mono ?_); rintro e1 w1 ⟨rfl, hb1⟩; have HB1 := Aside0.mk hb1; clear hb1))
  have HM1 : Aside0 (w1.heap[w.heap.size]? = some (.cells (cM m) 25 (0, 0)) ∧ w1.heap[w.heap.size + 1]? = some (.cells cZ 53 (0, 0)) ∧ Below w.heap.size w w1) := ⟨by
    have hb := HB1.out
    exact ⟨blk_below (blk_alloc (by rw [show cM m = #[.int .i64 m.f0, .int .i64 m.f1, .int .i64 m.f2, .int .i64 m.f3, .int .i64 m.f4.f0, .int .i64 (m.f4.f0 + sh.length)] by unfold cM; rw [hm]]; exact blk_new _ _) _) hb, blk_below (blk_p1 w _ _) hb, below_then (below_alloc (below_alloc (Below.refl _ _) _) _) (below_alloc (below_alloc (Below.refl _ _) _) _).size hb⟩⟩
  clear HC HB1
  go_cut [13] (fun v13 wc => ∃ (H g cD : Nat), v13 = .pointer (some ⟨H, 0, none⟩) ∧ Aside0 (MI w m H (.slice none 0 0) (.slice none 0 0) (.slice none 0 0) (.slice none 0 0) (.slice none 0 0) (.slice none 0 0) (.slice (some ⟨g, 0, none⟩) (sh.length + 1) cD) [] [] [] (List.replicate (sh.length + 1) false) wc))
  case first =>
    refine wp_region_split 6 (fun W => W.heap[w.heap.size]? = some (.cells (cM m) 25 (0, 0))) (by kernel_rfl) (by kernel_rfl) ?_
    simp only [List.take_succ_cons, List.take_zero, List.drop_succ_cons, List.drop_zero]
    have HS : w1.drew.heap[w.heap.size]? = some (.cells (cM m) 25 (0, 0)) := HM1.out.1
    have HW : w.heap.size + 2 ≤ w1.heap.size := blk_lt HM1.out.2.1
    have HWl : w.heap.size ≤ w1.heap.size := by omega
    have HWa : w.heap.size ≠ w1.heap.size := by omega
    have HWb : w.heap.size + 1 ≠ w1.heap.size := by omega
    have HCH : Aside0 (∀ vD, cH m (.slice none 0 0) (.slice none 0 0) (.slice none 0 0) vD = #[.int .i64 m.f0, .int .i64 m.f1, .int .i64 m.f2, .int .i64 m.f3, .int .i64 m.f4.f0, .int .i64 (m.f4.f0 + sh.length), .slice none 0 0, .slice none 0 0, .slice none 0 0, vD]) := ⟨fun vD => by unfold cH; rw [hm]⟩
    refine take_held (v := .agg #[.int .i64 m.f0, .int .i64 m.f1, .int .i64 m.f2, .int .i64 m.f3, .int .i64 m.f4.f0, .int .i64 (m.f4.f0 + sh.length)]) 0 rfl (by kernel_rfl) (by kernel_rfl) (by kernel_rfl) (fun _ _ _ h => h) (by rfl) HS (fun w9 h9 => ?hy) ?_
    case hy => (have c0 : w9.cell? ⟨w.heap.size, 0, none⟩ = some (.int .i64 m.f0) := (blk_cell h9 0).trans rfl; have c1 : w9.cell? ⟨w.heap.size, 1, none⟩ = some (.int .i64 m.f1) := (blk_cell h9 1).trans rfl; have c2 : w9.cell? ⟨w.heap.size, 2, none⟩ = some (.int .i64 m.f2) := (blk_cell h9 2).trans rfl; have c3 : w9.cell? ⟨w.heap.size, 3, none⟩ = some (.int .i64 m.f3) := (blk_cell h9 3).trans rfl; have c4 : w9.cell? ⟨w.heap.size, 4, none⟩ = some (.int .i64 m.f4.f0) := (blk_cell h9 4).trans rfl; have c5 : w9.cell? ⟨w.heap.size, 5, none⟩ = some (.int .i64 m.f4.f1) := (blk_cell h9 5).trans rfl; go_simp)
    try simp only [Act.put, List.setIfInBounds_toArray, List.set_cons_zero, List.set_cons_succ]
    refine take_held (v := .int .i64 sh.length) 1 rfl (by kernel_rfl) (by kernel_rfl) (by kernel_rfl) (fun _ _ _ h => h) (by rfl) HS (fun w9 h9 => ?hy) ?_
    case hy => (skip; go_simp)
    try simp only [Act.put, List.setIfInBounds_toArray, List.set_cons_zero, List.set_cons_succ]
    refine take_held (v := .int .i64 ((sh.length : Int) + 1)) 2 rfl (by kernel_rfl) (by kernel_rfl) (by kernel_rfl) (fun _ _ _ h => h) (by rfl) HS (fun w9 h9 => ?hy) ?_
    case hy => (skip; go_simp)
    try simp only [Act.put, List.setIfInBounds_toArray, List.set_cons_zero, List.set_cons_succ]
    refine both_held 3 5 rfl rfl (by kernel_rfl) (fun K hK => ?oa) (fun K hK => ?ob)
    case oa =>
      refine Kd.R_make_step Kd.bool (w0 := w) w.heap.size 4 (by rfl) (N := 50) (by rfl) 50 (.tmp 49) (.tmp 49) (by rfl) ((sh.length : Int) + 1) (by rfl) (by rfl) Tryd.underlying50 (.bool false) 1 infoB rfl (by decide) (by omega) false (ok := fun _ => True) (okp := fun _ => True) rfl (fun _ h => h) trivial (by omega) (by omega) ?mb ?ms ?_
      case mb => exact below_drew HM1.out.2.2
      case ms => exact HWl
      intro v1 w2 ho hb hg hat
      obtain ⟨g, cD, hv1, hgb, hgl, _⟩ := Kd.R_form ho (by rw [List.length_replicate]; omega)
      rw [show (List.replicate ((sh.length : Int) + 1).toNat false).length = sh.length + 1 by rw [List.length_replicate]; omega] at hv1
      subst hv1
      rw [show ((sh.length : Int) + 1).toNat = sh.length + 1 by omega] at ho
      try simp only [Act.put, List.setIfInBounds_toArray, List.set_cons_zero, List.set_cons_succ]
      refine hK.out _ _ (blk_grown HS hg (by simp)) ?_
      try simp only [Act.put, List.setIfInBounds_toArray, List.set_cons_zero, List.set_cons_succ]
      clear hK K
      replace HS := blk_grown HS hg (by simp)
      refine take_held (v := .agg #[.int .i64 m.f0, .int .i64 m.f1, .int .i64 m.f2, .int .i64 m.f3, .int .i64 m.f4.f0, .int .i64 (m.f4.f0 + sh.length), .slice none 0 0, .slice none 0 0, .slice none 0 0, .slice (some ⟨g, 0, none⟩) (sh.length + 1) cD]) 4 rfl (by kernel_rfl) (by kernel_rfl) (by kernel_rfl) (fun _ _ _ h => h) (by rfl) HS (fun w9 h9 => ?hy) ?_
      case hy => (skip; go_simp)
      try simp only [Act.put, List.setIfInBounds_toArray, List.set_cons_zero, List.set_cons_succ]
      refine only_held 5 rfl (by kernel_rfl) (fun K hK => ?_)
      go_simp
      refine hK.out _ _ (blk_alloc HS _) ?_
      try simp only [Act.put, List.setIfInBounds_toArray, List.set_cons_zero, List.set_cons_succ]
      refine done_held (by kernel_rfl) ?_
      show wpList _ _ _ _ _ _
      go_wp2
      go_meet
      case rel => exact ⟨w2.heap.size, g, cD, rfl, ⟨MI.start (below_alloc hb _) (Nat.le_trans HW hg.size) (blk_alloc HS _) (blk_alloc (blk_grown (row := none) (blk_drew HM1.out.2.1) hg (fun e => nomatch e)) _) (by rw [HCH.out]; exact blk_new _ _) (Kd.R_alloc ho _)⟩⟩
    case ob =>
      go_simp
      refine hK.out _ _ (blk_alloc HS _) ?_
      try simp only [Act.put, List.setIfInBounds_toArray, List.set_cons_zero, List.set_cons_succ]
      replace HS := blk_alloc HS (.cells cZ 53)
      refine only_held 3 rfl (by kernel_rfl) (fun K hK => ?_)
      refine Kd.R_make_step Kd.bool (w0 := w) w.heap.size 4 (by rfl) (N := 50) (by rfl) 50 (.tmp 49) (.tmp 49) (by rfl) ((sh.length : Int) + 1) (by rfl) (by rfl) Tryd.underlying50 (.bool false) 1 infoB rfl (by decide) (by omega) false (ok := fun _ => True) (okp := fun _ => True) rfl (fun _ h => h) trivial (by omega) (by omega) ?mb ?ms ?_
      case mb => exact below_alloc (below_drew HM1.out.2.2) _
      case ms => (have := (below_alloc (below_drew HM1.out.2.2) (.cells cZ 53)).size; exact this)
      intro v1 w2 ho hb hg hat
      obtain ⟨g, cD, hv1, hgb, hgl, _⟩ := Kd.R_form ho (by rw [List.length_replicate]; omega)
      rw [show (List.replicate ((sh.length : Int) + 1).toNat false).length = sh.length + 1 by rw [List.length_replicate]; omega] at hv1
      subst hv1
      rw [show ((sh.length : Int) + 1).toNat = sh.length + 1 by omega] at ho
      try simp only [Act.put, List.setIfInBounds_toArray, List.set_cons_zero, List.set_cons_succ]
      refine hK.out _ _ (blk_grown HS hg (by simp)) ?_
      try simp only [Act.put, List.setIfInBounds_toArray, List.set_cons_zero, List.set_cons_succ]
      replace HS := blk_grown HS hg (by simp)
      refine take_held (v := .agg #[.int .i64 m.f0, .int .i64 m.f1, .int .i64 m.f2, .int .i64 m.f3, .int .i64 m.f4.f0, .int .i64 (m.f4.f0 + sh.length), .slice none 0 0, .slice none 0 0, .slice none 0 0, .slice (some ⟨g, 0, none⟩) (sh.length + 1) cD]) 4 rfl (by kernel_rfl) (by kernel_rfl) (by kernel_rfl) (fun _ _ _ h => h) (by rfl) HS (fun w9 h9 => ?hy) ?_
      case hy => (skip; go_simp)
      try simp only [Act.put, List.setIfInBounds_toArray, List.set_cons_zero, List.set_cons_succ]
      have HH : w2.heap[w1.heap.size]? = some (.cells cZ 53 (0, 0)) := blk_grown (blk_new w1.drew _) hg (by simp)
      have c0 : w2.cell? ⟨w1.heap.size, 0, none⟩ = some (.int .i64 0) := (blk_cell HH 0).trans rfl
      have f0 : w2.frozen? ⟨w1.heap.size, 0, none⟩ = false := blk_frozen HH 0
      have c1 : w2.cell? ⟨w1.heap.size, 1, none⟩ = some (.int .i64 0) := (blk_cell HH 1).trans rfl
      have f1 : w2.frozen? ⟨w1.heap.size, 1, none⟩ = false := blk_frozen HH 1
      have c2 : w2.cell? ⟨w1.heap.size, 2, none⟩ = some (.int .i64 0) := (blk_cell HH 2).trans rfl
      have f2 : w2.frozen? ⟨w1.heap.size, 2, none⟩ = false := blk_frozen HH 2
      have c3 : w2.cell? ⟨w1.heap.size, 3, none⟩ = some (.int .i64 0) := (blk_cell HH 3).trans rfl
      have f3 : w2.frozen? ⟨w1.heap.size, 3, none⟩ = false := blk_frozen HH 3
      have c4 : w2.cell? ⟨w1.heap.size, 4, none⟩ = some (.int .i64 0) := (blk_cell HH 4).trans rfl
      have f4 : w2.frozen? ⟨w1.heap.size, 4, none⟩ = false := blk_frozen HH 4
      have c5 : w2.cell? ⟨w1.heap.size, 5, none⟩ = some (.int .i64 0) := (blk_cell HH 5).trans rfl
      have f5 : w2.frozen? ⟨w1.heap.size, 5, none⟩ = false := blk_frozen HH 5
      have c6 : w2.cell? ⟨w1.heap.size, 6, none⟩ = some (.slice none 0 0) := (blk_cell HH 6).trans rfl
      have f6 : w2.frozen? ⟨w1.heap.size, 6, none⟩ = false := blk_frozen HH 6
      have c7 : w2.cell? ⟨w1.heap.size, 7, none⟩ = some (.slice none 0 0) := (blk_cell HH 7).trans rfl
      have f7 : w2.frozen? ⟨w1.heap.size, 7, none⟩ = false := blk_frozen HH 7
      have c8 : w2.cell? ⟨w1.heap.size, 8, none⟩ = some (.slice none 0 0) := (blk_cell HH 8).trans rfl
      have f8 : w2.frozen? ⟨w1.heap.size, 8, none⟩ = false := blk_frozen HH 8
      have c9 : w2.cell? ⟨w1.heap.size, 9, none⟩ = some (.slice none 0 0) := (blk_cell HH 9).trans rfl
      have f9 : w2.frozen? ⟨w1.heap.size, 9, none⟩ = false := blk_frozen HH 9
      refine done_held (by kernel_rfl) ?_
      show wpList _ _ _ _ _ _
      go_wp2
      go_meet
      case rel => exact ⟨w1.heap.size, g, cD, rfl, ⟨MI.start10 hm hb HW HS (blk_grown (row := none) (blk_alloc (blk_drew HM1.out.2.1) _) hg (fun e => nomatch e)) HH ho⟩⟩
  case rest =>
    obtain ⟨H, g, cD, rfl, HI⟩ := hcut
    clear HM1
    have HI0 : Aside0 (MI w m H (.slice none 0 0) (.slice none 0 0) (.slice none 0 0) (.slice none 0 0) (.slice none 0 0) (.slice none 0 0) (.slice (some ⟨g, 0, none⟩) (sh.length + 1) cD) ((List.range 0).map (sAt m sh)) ((List.range 0).map (cAt m sh sl)) (rowR m st sh rd 0) (dRow m rd sh.length 0) wc) := ⟨by simpa [dRow, rowR] using HI.out⟩
    clear HI
    go_wp2
    go_loopg [14, 15] (sh.length + 1) (fun gk v14 v15 w' => ∃ (i : Nat) (vS vC vR : Value), v14 = .int .i64 (atS m st sh i) ∧ v15 = .int .i64 i ∧ Aside0 (i ≤ sh.length ∧ gk = sh.length + 1 - i) ∧ Aside0 (MI w m H vS vC vR vS vC vR (.slice (some ⟨g, 0, none⟩) (sh.length + 1) cD) ((List.range i).map (sAt m sh)) ((List.range i).map (cAt m sh sl)) (rowR m st sh rd i) (dRow m rd sh.length i) w'))
    case atStart => exact ⟨0, .slice none 0 0, .slice none 0 0, .slice none 0 0, by rw [Go.IntWalk.wrap64_in st (by have := HST.out; omega)]; rfl, rfl, ⟨Nat.zero_le _, rfl⟩, HI0⟩
    case round =>
      clear HI0
      obtain ⟨i, vS, vC, vR, rfl, rfl, HK, HI⟩ := hrel
      have hi := HK.out.1
      have hlei : (i : Int) ≤ (sh.length : Int) := by omega
      have e1 : decide ((i : Int) ≤ (sh.length : Int)) = true := decide_eq_true hlei
      go_upto_region 10 with (fail)
      go_cut [] (fun wd => Aside0 (MI w m H vS vC vR vS vC vR (.slice (some ⟨g, 0, none⟩) (sh.length + 1) cD) ((List.range i).map (sAt m sh)) ((List.range i).map (cAt m sh sl)) (rowR m st sh rd i) ((dRow m rd sh.length i).set i (rd.getD i false)) wd))
      case first =>
        have HB := HI.out.hb
        have c9 : wr.cell? ⟨H, 9, none⟩ = some (.slice (some ⟨g, 0, none⟩) (sh.length + 1) cD) := (blk_cell HI.out.bH 9).trans rfl
        obtain ⟨d1, d2⟩ := Kd.R_celln false HI.out.rD (i : Int) (by omega) (by omega)
        simp only [Int.toNat_natCast] at d1 d2
        have i0 : 0 ≤ (i : Int) := by omega
        have i1 : (i : Int) < ((sh.length + 1 : Nat) : Int) := by omega
        have i2 : (i : Int) < (sh.length : Int) + 1 := by omega
        have HX : Aside0 (∀ b, rd.getD i false = b → MI w m H vS vC vR vS vC vR (.slice (some ⟨g, 0, none⟩) (sh.length + 1) cD) ((List.range i).map (sAt m sh)) ((List.range i).map (cAt m sh sl)) (rowR m st sh rd i) ((dRow m rd sh.length i).set i (rd.getD i false)) (wr.setCell ⟨g, i, none⟩ (.bool b)).drew) := ⟨fun b e => by rw [e]; exact (HI.out.setD (i : Int) b).drew⟩
        by_cases hlr : i < rd.length
        · obtain ⟨ad, e4, x⟩ := Kd.at_bool (Kd.C_below HR4.out HB) (i : Int) (by omega) (by omega)
          subst e4
          simp only [Int.toNat_natCast] at x
          have j1 : (i : Int) < (rd.length : Int) := by omega
          have g5 : decide ((i : Int) < (rd.length : Int)) = true := decide_eq_true j1
          have hv : rd.getD i false = rdOf false rd (i : Int) := by unfold rdOf; rw [Int.toNat_natCast]
          generalize rdOf false rd (i : Int) = b at *
          have HX1 := Aside0.mk (HX.out b hv)
          clear HX hv HI HR2 HR3 HR4 HB hlr
          go_region
          go_wp2
          go_meet
          case rel => exact HX1
        · have g5 : decide ((i : Int) < (rd.length : Int)) = false := decide_eq_false (by omega)
          have g6 : decide (i < rd.length) = false := decide_eq_false hlr
          have j3 : (rd.length : Int) ≤ (i : Int) := by omega
          have HX1 := Aside0.mk (HX.out false (by simp [List.getD_eq_getElem?_getD, List.getElem?_eq_none (show rd.length ≤ i by omega)]))
          clear HX HI HR2 HR3 HR4 HB hlr
          go_region
          go_wp2
          go_meet
          case rel => exact HX1
      case rest =>
        have HI1 := hcut
        clear HI hcut
        have HD : Aside0 (rdOf false ((dRow m rd sh.length i).set i (rd.getD i false)) (i : Int) = rd.getD i false) := ⟨by unfold rdOf; rw [Int.toNat_natCast, List.getD_eq_getElem?_getD, List.getElem?_set_self (by rw [dRow_len m rd hi]; omega)]; rfl⟩
        go_upto_region 11 with (fail)
        have c9 : wc.cell? ⟨H, 9, none⟩ = some (.slice (some ⟨g, 0, none⟩) (sh.length + 1) cD) := (blk_cell HI1.out.bH 9).trans rfl
        have c4 : wc.cell? ⟨w.heap.size, 4, none⟩ = some (.int .i64 m.f4.f0) := (blk_cell HI1.out.bM 4).trans rfl
        obtain ⟨d1, d2⟩ := Kd.R_celln false HI1.out.rD (i : Int) (by omega) (by omega)
        rw [HD.out] at d1
        simp only [Int.toNat_natCast] at d1 d2
        have i0 : 0 ≤ (i : Int) := by omega
        have i1 : (i : Int) < ((sh.length + 1 : Nat) : Int) := by omega
        have i2 : (i : Int) < (sh.length : Int) + 1 := by omega
        have hw3 : IntKind.i64.wrap (m.f4.f0 + (i : Int)) = m.f4.f0 + (i : Int) := Go.IntWalk.i64_in _ (by omega)
        go_cut [85] (fun v85 we => v85 = .bool (rAt m rd i) ∧ wc = we)
        case first =>
          have HA : Aside0 (rAt m rd i = (rd.getD i false && decide (m.f4.f0 + (i : Int) ≤ 36524))) := ⟨rfl⟩
          generalize rd.getD i false = b at *
          by_cases hb : b = true
          · subst hb
            go_wp2
            go_meet
            case rel => exact ⟨by rw [HA.out]; rfl, rfl⟩
          · rw [Bool.not_eq_true] at hb
            subst hb
            go_wp2
            go_meet
            case rel => exact ⟨by rw [HA.out]; rfl, rfl⟩
        case rest =>
          obtain ⟨rfl, rfl⟩ := hcut
          go_upto_if 85 with (fail)
          have HDf : Aside0 (rAt m rd i = false → rd.getD i false = true ∨ rd.getD i false = false) := ⟨fun _ => by cases rd.getD i false <;> simp⟩
          clear hw3 HD HDf
          go_cut [] (fun wf => ∃ vR' : Value, Aside0 (MI w m H vS vC vR' vS vC vR' (.slice (some ⟨g, 0, none⟩) (sh.length + 1) cD) ((List.range i).map (sAt m sh)) ((List.range i).map (cAt m sh sl)) (rowR m st sh rd (i + 1)) (dRow m rd sh.length (i + 1)) wf))
          case first =>
            cases hra : rAt m rd i with
            | false =>
              have HX : Aside0 (MI w m H vS vC vR vS vC vR (.slice (some ⟨g, 0, none⟩) (sh.length + 1) cD) ((List.range i).map (sAt m sh)) ((List.range i).map (cAt m sh sl)) (rowR m st sh rd (i + 1)) (dRow m rd sh.length (i + 1)) (wc.setCell ⟨g, i, none⟩ (.bool false))) := ⟨by
                have h := HI1.out.setD (i : Int) false
                rw [Int.toNat_natCast, dRow_set2 m rd hi _ _ hra] at h
                have e : rowR m st sh rd (i + 1) = rowR m st sh rd i := by simp [rowR, hra]
                rw [e]; exact h⟩
              clear HI1
              go_wp2
              go_meet
              case rel => exact ⟨vR, HX⟩
            | true =>
              have hw3 : IntKind.i64.wrap (m.f4.f0 + (i : Int)) = m.f4.f0 + (i : Int) := Go.IntWalk.i64_in _ (by omega)
              have hp := pow10_bound (d := m.f1) (by omega) (by omega)
              have ha := atS_bd (m := m) ⟨by omega, by omega⟩ HST.out sh i
              have HPw := Aside0.mk (fun W => rpower_calls m.f1 (by omega) (by omega) W)
              have HRD : Aside0 (rdAt m st sh i = ⟨m.f0, m.f4.f0 + (i : Int), (atS m st sh i) % pow10 m.f1, 0⟩) := ⟨rfl⟩
              have hrm : IntKind.i64.wrap (Int.tmod (atS m st sh i) (pow10 m.f1)) = atS m st sh i % pow10 m.f1 := by rw [Int.tmod_eq_emod_of_nonneg ha.1]; exact Go.IntWalk.i64_in _ (by have h1 := Int.emod_nonneg (atS m st sh i) (show pow10 m.f1 ≠ 0 by omega); have h2 := Int.emod_lt_of_pos (atS m st sh i) (show 0 < pow10 m.f1 by omega); omega)
              have hrm2 : Int.tmod (atS m st sh i) (pow10 m.f1) = atS m st sh i % pow10 m.f1 := Int.tmod_eq_emod_of_nonneg ha.1
              have HRI : Aside0 (rowR m st sh rd (i + 1) = rowR m st sh rd i ++ [rdAt m st sh i]) := ⟨by simp [rowR, hra]⟩
              have HDS : Aside0 ((dRow m rd sh.length i).set i (rd.getD i false) = dRow m rd sh.length (i + 1)) := ⟨dRow_set m rd hi _ (by have := hra; unfold rAt at this ⊢; simp only [Bool.and_eq_true] at this; rw [this.1, this.2]; rfl)⟩
              have hp0 : pow10 m.f1 ≠ 0 := by omega
              generalize pow10 m.f1 = p at *
              generalize atS m st sh i = at_ at *
              clear d1 d2 c9 HR2 HR3 HR4
              go_upto_region 12 with (fail)
              refine wp_region_split 17 (fun W => W.heap[w.heap.size]? = some (.cells (cM m) 25 (0, 0)) ∧ W.heap[H]? = some (.cells (cH m vS vC vR (.slice (some ⟨g, 0, none⟩) (sh.length + 1) cD)) 53 (0, 0))) (by kernel_rfl) (by kernel_rfl) ?_
              simp only [List.take_succ_cons, List.take_zero, List.drop_succ_cons, List.drop_zero]
              have HS : wc.drew.heap[w.heap.size]? = some (.cells (cM m) 25 (0, 0)) ∧ wc.drew.heap[H]? = some (.cells (cH m vS vC vR (.slice (some ⟨g, 0, none⟩) (sh.length + 1) cD)) 53 (0, 0)) := ⟨HI1.out.bM, HI1.out.bH⟩
              refine take_held (v := .pointer (some ⟨H, 8, none⟩)) 0 rfl (by kernel_rfl) (by kernel_rfl) (by kernel_rfl) (fun _ _ _ h => h) (by rfl) HS (fun w9 h9 => ?hy) ?_
              case hy => (skip; go_simp)
              try simp only [Act.put, List.setIfInBounds_toArray, List.set_cons_zero, List.set_cons_succ]
              refine take_held (v := vR) 1 rfl (by kernel_rfl) (by kernel_rfl) (by kernel_rfl) (fun _ _ _ h => h) (by rfl) HS (fun w9 h9 => ?hy) ?_
              case hy => (have c8 : w9.cell? ⟨H, 8, none⟩ = some vR := (blk_cell h9.2 8).trans rfl; go_simp)
              try simp only [Act.put, List.setIfInBounds_toArray, List.set_cons_zero, List.set_cons_succ]
              refine take_held (v := .pointer (some ⟨w.heap.size, 0, none⟩)) 2 rfl (by kernel_rfl) (by kernel_rfl) (by kernel_rfl) (fun _ _ _ h => h) (by rfl) HS (fun w9 h9 => ?hy) ?_
              case hy => (skip; go_simp)
              try simp only [Act.put, List.setIfInBounds_toArray, List.set_cons_zero, List.set_cons_succ]
              refine take_held (v := .int .i64 m.f0) 3 rfl (by kernel_rfl) (by kernel_rfl) (by kernel_rfl) (fun _ _ _ h => h) (by rfl) HS (fun w9 h9 => ?hy) ?_
              case hy => (have c0 : w9.cell? ⟨w.heap.size, 0, none⟩ = some (.int .i64 m.f0) := (blk_cell h9.1 0).trans rfl; have c1 : w9.cell? ⟨w.heap.size, 1, none⟩ = some (.int .i64 m.f1) := (blk_cell h9.1 1).trans rfl; have c2 : w9.cell? ⟨w.heap.size, 2, none⟩ = some (.int .i64 m.f2) := (blk_cell h9.1 2).trans rfl; have c3 : w9.cell? ⟨w.heap.size, 3, none⟩ = some (.int .i64 m.f3) := (blk_cell h9.1 3).trans rfl; have c4 : w9.cell? ⟨w.heap.size, 4, none⟩ = some (.int .i64 m.f4.f0) := (blk_cell h9.1 4).trans rfl; have c5 : w9.cell? ⟨w.heap.size, 5, none⟩ = some (.int .i64 m.f4.f1) := (blk_cell h9.1 5).trans rfl; go_simp)
              try simp only [Act.put, List.setIfInBounds_toArray, List.set_cons_zero, List.set_cons_succ]
              refine take_held (v := .pointer (some ⟨w.heap.size, 4, none⟩)) 4 rfl (by kernel_rfl) (by kernel_rfl) (by kernel_rfl) (fun _ _ _ h => h) (by rfl) HS (fun w9 h9 => ?hy) ?_
              case hy => (skip; go_simp)
              try simp only [Act.put, List.setIfInBounds_toArray, List.set_cons_zero, List.set_cons_succ]
              refine take_held (v := .pointer (some ⟨w.heap.size, 4, none⟩)) 5 rfl (by kernel_rfl) (by kernel_rfl) (by kernel_rfl) (fun _ _ _ h => h) (by rfl) HS (fun w9 h9 => ?hy) ?_
              case hy => (skip; go_simp)
              try simp only [Act.put, List.setIfInBounds_toArray, List.set_cons_zero, List.set_cons_succ]
              refine take_held (v := .int .i64 m.f4.f0) 6 rfl (by kernel_rfl) (by kernel_rfl) (by kernel_rfl) (fun _ _ _ h => h) (by rfl) HS (fun w9 h9 => ?hy) ?_
              case hy => (have c0 : w9.cell? ⟨w.heap.size, 0, none⟩ = some (.int .i64 m.f0) := (blk_cell h9.1 0).trans rfl; have c1 : w9.cell? ⟨w.heap.size, 1, none⟩ = some (.int .i64 m.f1) := (blk_cell h9.1 1).trans rfl; have c2 : w9.cell? ⟨w.heap.size, 2, none⟩ = some (.int .i64 m.f2) := (blk_cell h9.1 2).trans rfl; have c3 : w9.cell? ⟨w.heap.size, 3, none⟩ = some (.int .i64 m.f3) := (blk_cell h9.1 3).trans rfl; have c4 : w9.cell? ⟨w.heap.size, 4, none⟩ = some (.int .i64 m.f4.f0) := (blk_cell h9.1 4).trans rfl; have c5 : w9.cell? ⟨w.heap.size, 5, none⟩ = some (.int .i64 m.f4.f1) := (blk_cell h9.1 5).trans rfl; go_simp)
              try simp only [Act.put, List.setIfInBounds_toArray, List.set_cons_zero, List.set_cons_succ]
              refine take_held (v := .int .i64 i) 7 rfl (by kernel_rfl) (by kernel_rfl) (by kernel_rfl) (fun _ _ _ h => h) (by rfl) HS (fun w9 h9 => ?hy) ?_
              case hy => (skip; go_simp)
              try simp only [Act.put, List.setIfInBounds_toArray, List.set_cons_zero, List.set_cons_succ]
              refine take_held (v := .int .i64 (m.f4.f0 + (i : Int))) 8 rfl (by kernel_rfl) (by kernel_rfl) (by kernel_rfl) (fun _ _ _ h => h) (by rfl) HS (fun w9 h9 => ?hy) ?_
              case hy => (skip; go_simp)
              try simp only [Act.put, List.setIfInBounds_toArray, List.set_cons_zero, List.set_cons_succ]
              refine take_held (v := .int .i64 at_) 9 rfl (by kernel_rfl) (by kernel_rfl) (by kernel_rfl) (fun _ _ _ h => h) (by rfl) HS (fun w9 h9 => ?hy) ?_
              case hy => (skip; go_simp)
              try simp only [Act.put, List.setIfInBounds_toArray, List.set_cons_zero, List.set_cons_succ]
              refine take_held (v := .pointer (some ⟨w.heap.size, 1, none⟩)) 10 rfl (by kernel_rfl) (by kernel_rfl) (by kernel_rfl) (fun _ _ _ h => h) (by rfl) HS (fun w9 h9 => ?hy) ?_
              case hy => (skip; go_simp)
              try simp only [Act.put, List.setIfInBounds_toArray, List.set_cons_zero, List.set_cons_succ]
              refine take_held (v := .int .i64 m.f1) 11 rfl (by kernel_rfl) (by kernel_rfl) (by kernel_rfl) (fun _ _ _ h => h) (by rfl) HS (fun w9 h9 => ?hy) ?_
              case hy => (have c0 : w9.cell? ⟨w.heap.size, 0, none⟩ = some (.int .i64 m.f0) := (blk_cell h9.1 0).trans rfl; have c1 : w9.cell? ⟨w.heap.size, 1, none⟩ = some (.int .i64 m.f1) := (blk_cell h9.1 1).trans rfl; have c2 : w9.cell? ⟨w.heap.size, 2, none⟩ = some (.int .i64 m.f2) := (blk_cell h9.1 2).trans rfl; have c3 : w9.cell? ⟨w.heap.size, 3, none⟩ = some (.int .i64 m.f3) := (blk_cell h9.1 3).trans rfl; have c4 : w9.cell? ⟨w.heap.size, 4, none⟩ = some (.int .i64 m.f4.f0) := (blk_cell h9.1 4).trans rfl; have c5 : w9.cell? ⟨w.heap.size, 5, none⟩ = some (.int .i64 m.f4.f1) := (blk_cell h9.1 5).trans rfl; go_simp)
              try simp only [Act.put, List.setIfInBounds_toArray, List.set_cons_zero, List.set_cons_succ]
              refine only_held 12 rfl (by kernel_rfl) (fun K hK => ?_)
              go_simp
              refine (HPw.out _).mono ?_
              rintro e2 w2 ⟨rfl, hb2⟩
              show K _ _
              try simp only [Act.put, List.setIfInBounds_toArray, List.set_cons_zero, List.set_cons_succ]
              have HI2 := Aside0.mk (HI1.out.drew.below hb2)
              clear hb2
              replace HS := And.intro HI2.out.bM HI2.out.bH
              refine hK.out _ _ HS ?_
              try simp only [Act.put, List.setIfInBounds_toArray, List.set_cons_zero, List.set_cons_succ]
              clear hK K
              refine take_held (v := .int .i64 (at_ % p)) 13 rfl (by kernel_rfl) (by kernel_rfl) (by kernel_rfl) (fun _ _ _ h => h) (by rfl) HS (fun w9 h9 => ?hy) ?_
              case hy => (skip; go_simp)
              try simp only [Act.put, List.setIfInBounds_toArray, List.set_cons_zero, List.set_cons_succ]
              refine take_held (v := .agg #[.int .i64 m.f0, .int .i64 (m.f4.f0 + (i : Int)), .int .i64 (at_ % p), .int .i64 0]) 14 rfl (by kernel_rfl) (by kernel_rfl) (by kernel_rfl) (fun _ _ _ h => h) (by rfl) HS (fun w9 h9 => ?hy) ?_
              case hy => (skip; go_simp)
              try simp only [Act.put, List.setIfInBounds_toArray, List.set_cons_zero, List.set_cons_succ]
              refine only_held 15 rfl (by kernel_rfl) (fun K hK => ?_)
              go_simp
              have HI3 := Aside0.mk (HI2.out.alloc (.cells #[.int .i64 m.f0, .int .i64 (m.f4.f0 + (i : Int)), .int .i64 (at_ % p), .int .i64 0] 43))
              replace HS := And.intro HI3.out.bM HI3.out.bH
              refine hK.out _ _ HS ?_
              try simp only [Act.put, List.setIfInBounds_toArray, List.set_cons_zero, List.set_cons_succ]
              clear hK K
              refine only_held 16 rfl (by kernel_rfl) (fun K hK => ?_)
              refine Kd.R_append_rows_step k43 (Rr := k43.K _) (w0 := w) w.heap.size (by rfl) (.tmp 87) (.tmp 101) 27 43 (.agg #[(.int .i64 0), (.int .i64 0), (.int .i64 0), (.int .i64 0)]) 32 (by rfl) Tryd.underlying27 info43 rfl (by decide) (by omega) vR (rowR m st sh rd i) [rdAt m st sh i] _ 1 1 (fun _ => True) (fun _ => False) (by rfl) (by rfl) ?aO ?aR (fun y cs h => k43_KM _ _ y cs h) (fun _ h => h.elim) (fun _ _ => trivial) ?aB ?aS ?aL ?_
              case aO => exact HI3.out.rR
              case aR => (rw [HRD.out]; exact k43_one _ (blk_new _ _))
              case aB => exact HI3.out.hb
              case aS => exact HI3.out.hb.size
              case aL => (have := rowR_len m st sh rd i; omega)
              intro v1 w3 ho hb hg hat
              try simp only [Act.put, List.setIfInBounds_toArray, List.set_cons_zero, List.set_cons_succ]
              rw [← HRI.out] at ho
              obtain ⟨A9, k9, hv9⟩ := Kd.R_slice ho
              subst hv9
              have HI4 := Aside0.mk (HI3.out.appR ho hb hg)
              clear ho hb hg hat HI3
              replace HS := And.intro HI4.out.bM HI4.out.bH
              refine hK.out _ _ HS ?_
              try simp only [Act.put, List.setIfInBounds_toArray, List.set_cons_zero, List.set_cons_succ]
              clear hK K
              refine done_held (by kernel_rfl) ?_
              show wpList _ _ _ _ _ _
              have c8 : w3.cell? ⟨H, 8, none⟩ = some vR := (blk_cell HI4.out.bH 8).trans rfl
              have f8 : w3.frozen? ⟨H, 8, none⟩ = false := blk_frozen HI4.out.bH 8
              have HI5 := Aside0.mk (HI4.out.set8 (.slice A9 (rowR m st sh rd (i + 1)).length k9))
              rw [HDS.out] at HI5
              clear HI4 HI2 HI1 HS
              go_wp2
              go_meet
              case rel => exact ⟨_, HI5⟩
          case rest =>
            clear HI1 d1 d2 c4 c9
            obtain ⟨vR2, HI2⟩ := hcut
            by_cases hin : i = sh.length
            · subst hin
              obtain ⟨A5, k5, q5⟩ := Kd.R_slice HI2.out.rS
              obtain ⟨A6, k6, q6⟩ := Kd.R_slice HI2.out.rC
              obtain ⟨A7, k7, q7⟩ := Kd.R_slice HI2.out.rR
              rw [List.length_map, List.length_range] at q5 q6
              subst q5; subst q6; subst q7
              have h0 : wc.cell? ⟨H, 0, none⟩ = some (.int .i64 m.f0) := (blk_cell HI2.out.bH 0).trans rfl; have h1 : wc.cell? ⟨H, 1, none⟩ = some (.int .i64 m.f1) := (blk_cell HI2.out.bH 1).trans rfl; have h2 : wc.cell? ⟨H, 2, none⟩ = some (.int .i64 m.f2) := (blk_cell HI2.out.bH 2).trans rfl; have h3 : wc.cell? ⟨H, 3, none⟩ = some (.int .i64 m.f3) := (blk_cell HI2.out.bH 3).trans rfl; have h4 : wc.cell? ⟨H, 4, none⟩ = some (.int .i64 m.f4.f0) := (blk_cell HI2.out.bH 4).trans rfl; have h5 : wc.cell? ⟨H, 5, none⟩ = some (.int .i64 m.f4.f1) := (blk_cell HI2.out.bH 5).trans rfl; have h6 : wc.cell? ⟨H, 6, none⟩ = some (.slice A5 sh.length k5) := (blk_cell HI2.out.bH 6).trans rfl; have h7 : wc.cell? ⟨H, 7, none⟩ = some (.slice A6 sh.length k6) := (blk_cell HI2.out.bH 7).trans rfl; have h8 : wc.cell? ⟨H, 8, none⟩ = some (.slice A7 (rowR m st sh rd (sh.length + 1)).length k7) := (blk_cell HI2.out.bH 8).trans rfl; have h9 : wc.cell? ⟨H, 9, none⟩ = some (.slice (some ⟨g, 0, none⟩) (sh.length + 1) cD) := (blk_cell HI2.out.bH 9).trans rfl
              have z0 : wc.cell? ⟨w.heap.size + 1, 0, none⟩ = some (.int .i64 0) := (blk_cell HI2.out.bZ 0).trans rfl; have f0 := blk_frozen HI2.out.bZ 0; have z1 : wc.cell? ⟨w.heap.size + 1, 1, none⟩ = some (.int .i64 0) := (blk_cell HI2.out.bZ 1).trans rfl; have f1 := blk_frozen HI2.out.bZ 1; have z2 : wc.cell? ⟨w.heap.size + 1, 2, none⟩ = some (.int .i64 0) := (blk_cell HI2.out.bZ 2).trans rfl; have f2 := blk_frozen HI2.out.bZ 2; have z3 : wc.cell? ⟨w.heap.size + 1, 3, none⟩ = some (.int .i64 0) := (blk_cell HI2.out.bZ 3).trans rfl; have f3 := blk_frozen HI2.out.bZ 3; have z4 : wc.cell? ⟨w.heap.size + 1, 4, none⟩ = some (.int .i64 0) := (blk_cell HI2.out.bZ 4).trans rfl; have f4 := blk_frozen HI2.out.bZ 4; have z5 : wc.cell? ⟨w.heap.size + 1, 5, none⟩ = some (.int .i64 0) := (blk_cell HI2.out.bZ 5).trans rfl; have f5 := blk_frozen HI2.out.bZ 5; have z6 : wc.cell? ⟨w.heap.size + 1, 6, none⟩ = some (.slice none 0 0) := (blk_cell HI2.out.bZ 6).trans rfl; have f6 := blk_frozen HI2.out.bZ 6; have z7 : wc.cell? ⟨w.heap.size + 1, 7, none⟩ = some (.slice none 0 0) := (blk_cell HI2.out.bZ 7).trans rfl; have f7 := blk_frozen HI2.out.bZ 7; have z8 : wc.cell? ⟨w.heap.size + 1, 8, none⟩ = some (.slice none 0 0) := (blk_cell HI2.out.bZ 8).trans rfl; have f8 := blk_frozen HI2.out.bZ 8; have z9 : wc.cell? ⟨w.heap.size + 1, 9, none⟩ = some (.slice none 0 0) := (blk_cell HI2.out.bZ 9).trans rfl; have f9 := blk_frozen HI2.out.bZ 9
              have b0 := HI2.out.bZ; have b1 := blk_put (cs' := #[.int .i64 m.f0, .int .i64 0, .int .i64 0, .int .i64 0, .int .i64 0, .int .i64 0, .slice none 0 0, .slice none 0 0, .slice none 0 0, .slice none 0 0]) b0 0 (.int .i64 m.f0) rfl; have b2 := blk_put (cs' := #[.int .i64 m.f0, .int .i64 m.f1, .int .i64 0, .int .i64 0, .int .i64 0, .int .i64 0, .slice none 0 0, .slice none 0 0, .slice none 0 0, .slice none 0 0]) b1 1 (.int .i64 m.f1) rfl; have b3 := blk_put (cs' := #[.int .i64 m.f0, .int .i64 m.f1, .int .i64 m.f2, .int .i64 0, .int .i64 0, .int .i64 0, .slice none 0 0, .slice none 0 0, .slice none 0 0, .slice none 0 0]) b2 2 (.int .i64 m.f2) rfl; have b4 := blk_put (cs' := #[.int .i64 m.f0, .int .i64 m.f1, .int .i64 m.f2, .int .i64 m.f3, .int .i64 0, .int .i64 0, .slice none 0 0, .slice none 0 0, .slice none 0 0, .slice none 0 0]) b3 3 (.int .i64 m.f3) rfl; have b5 := blk_put (cs' := #[.int .i64 m.f0, .int .i64 m.f1, .int .i64 m.f2, .int .i64 m.f3, .int .i64 m.f4.f0, .int .i64 0, .slice none 0 0, .slice none 0 0, .slice none 0 0, .slice none 0 0]) b4 4 (.int .i64 m.f4.f0) rfl; have b6 := blk_put (cs' := #[.int .i64 m.f0, .int .i64 m.f1, .int .i64 m.f2, .int .i64 m.f3, .int .i64 m.f4.f0, .int .i64 (m.f4.f0 + sh.length), .slice none 0 0, .slice none 0 0, .slice none 0 0, .slice none 0 0]) b5 5 (.int .i64 (m.f4.f0 + sh.length)) rfl; have b7 := blk_put (cs' := #[.int .i64 m.f0, .int .i64 m.f1, .int .i64 m.f2, .int .i64 m.f3, .int .i64 m.f4.f0, .int .i64 (m.f4.f0 + sh.length), .slice A5 sh.length k5, .slice none 0 0, .slice none 0 0, .slice none 0 0]) b6 6 (.slice A5 sh.length k5) rfl; have b8 := blk_put (cs' := #[.int .i64 m.f0, .int .i64 m.f1, .int .i64 m.f2, .int .i64 m.f3, .int .i64 m.f4.f0, .int .i64 (m.f4.f0 + sh.length), .slice A5 sh.length k5, .slice A6 sh.length k6, .slice none 0 0, .slice none 0 0]) b7 7 (.slice A6 sh.length k6) rfl; have b9 := blk_put (cs' := #[.int .i64 m.f0, .int .i64 m.f1, .int .i64 m.f2, .int .i64 m.f3, .int .i64 m.f4.f0, .int .i64 (m.f4.f0 + sh.length), .slice A5 sh.length k5, .slice A6 sh.length k6, .slice A7 (rowR m st sh rd (sh.length + 1)).length k7, .slice none 0 0]) b8 8 (.slice A7 (rowR m st sh rd (sh.length + 1)).length k7) rfl; have b10 := blk_put (cs' := #[.int .i64 m.f0, .int .i64 m.f1, .int .i64 m.f2, .int .i64 m.f3, .int .i64 m.f4.f0, .int .i64 (m.f4.f0 + sh.length), .slice A5 sh.length k5, .slice A6 sh.length k6, .slice A7 (rowR m st sh rd (sh.length + 1)).length k7, .slice (some ⟨g, 0, none⟩) (sh.length + 1) cD]) b9 9 (.slice (some ⟨g, 0, none⟩) (sh.length + 1) cD) rfl
              have HO := Aside0.mk HI2.out.out
              have HDD : Aside0 (dRow m rd sh.length (sh.length + 1) = (List.range (sh.length + 1)).map (rAt m rd)) := ⟨by simp [dRow]⟩
              clear HI2 HR2 HR3 HR4 HK
              have HBB := Aside0.mk b10
              clear b0 b1 b2 b3 b4 b5 b6 b7 b8 b9 b10
              go_wp2
              refine bodyPost_ret (v := .tuple #[.agg #[.int .i64 m.f0, .int .i64 m.f1, .int .i64 m.f2, .int .i64 m.f3, .int .i64 m.f4.f0, .int .i64 (m.f4.f0 + sh.length), .slice A5 sh.length k5, .slice A6 sh.length k6, .slice A7 (rowR m st sh rd (sh.length + 1)).length k7, .slice (some ⟨g, 0, none⟩) (sh.length + 1) cD], .bool true]) ?_ rfl ?_
              · exact results_ct (p := 10) (u := 11) (ty := 53) rfl _ _ (w.heap.size + 1) 53 #[.int .i64 m.f0, .int .i64 m.f1, .int .i64 m.f2, .int .i64 m.f3, .int .i64 m.f4.f0, .int .i64 (m.f4.f0 + sh.length), .slice A5 sh.length k5, .slice A6 sh.length k6, .slice A7 (rowR m st sh rd (sh.length + 1)).length k7, .slice (some ⟨g, 0, none⟩) (sh.length + 1) cD] (0, 0) _ rfl HBB.out hu53 rfl (by kernel_rfl)
              have q0 := HO.out; have q1 := q0.set 0 (.int .i64 m.f0); have q2 := q1.set 1 (.int .i64 m.f1); have q3 := q2.set 2 (.int .i64 m.f2); have q4 := q3.set 3 (.int .i64 m.f3); have q5 := q4.set 4 (.int .i64 m.f4.f0); have q6 := q5.set 5 (.int .i64 (m.f4.f0 + sh.length)); have q7 := q6.set 6 (.slice A5 sh.length k5); have q8 := q7.set 7 (.slice A6 sh.length k6); have q9 := q8.set 8 (.slice A7 (rowR m st sh rd (sh.length + 1)).length k7); have q10 := q9.set 9 (.slice (some ⟨g, 0, none⟩) (sh.length + 1) cD)
              rw [HDD.out] at q10
              exact ⟨.slice A5 sh.length k5, .slice A6 sh.length k6, .slice A7 (rowR m st sh rd (sh.length + 1)).length k7, .slice (some ⟨g, 0, none⟩) (sh.length + 1) cD, by unfold cH; rw [hm], q10.rS, q10.rC, q10.rR, q10.rD, q10.hb⟩
            · have hlt : i < sh.length := by omega
              have hlt2 : (i : Int) < (sh.length : Int) := by omega
              have e2 : decide ((i : Int) = (sh.length : Int)) = false := decide_eq_false (by omega)
              have e3 : decide (i = sh.length) = false := decide_eq_false hin
              obtain ⟨ad, e5, x5⟩ := Kd.at_int (Kd.C_below HR2.out HI2.out.hb) (i : Int) (by omega) (by omega)
              subst e5
              simp only [Int.toNat_natCast] at x5
              have hr5 : Go.Proofs.YtknfkibnocfjiaaDoorW.PrintWords.rd sh (i : Int) = sh.getD i 0 := by show sh.getD (Int.toNat (i : Int)) 0 = _; rw [Int.toNat_natCast]
              rw [hr5] at x5
              have hx5 : 0 ≤ sh.getD i 0 ∧ sh.getD i 0 ≤ 65535 := HSH.out _ (by rw [List.getD_eq_getElem?_getD, List.getElem?_eq_getElem hlt]; exact List.getElem_mem hlt)
              have hs5 := sAt_bd (m := m) (by omega) sh i
              have HS5 : Aside0 (sAt m sh i = sh.getD i 0 % (m.f2 + 1)) := ⟨rfl⟩
              have HC5 : Aside0 (cAt m sh sl i = loS m (sAt m sh i) + if i < sl.length then sl.getD i 0 % (hiS m (sAt m sh i) - loS m (sAt m sh i) + 1) else 0) := ⟨rfl⟩
              have HA5 : Aside0 (atS m st sh (i + 1) = atS m st sh i + sAt m sh i) := ⟨rfl⟩
              have c2 : wc.cell? ⟨w.heap.size, 2, none⟩ = some (.int .i64 m.f2) := (blk_cell HI2.out.bM 2).trans rfl
              have c3 : wc.cell? ⟨w.heap.size, 3, none⟩ = some (.int .i64 m.f3) := (blk_cell HI2.out.bM 3).trans rfl
              have w1 : IntKind.i64.wrap (sh.getD i 0) = sh.getD i 0 := Go.IntWalk.i64_in _ (by omega)
              have w2 : IntKind.i64.wrap (m.f2 + 1) = m.f2 + 1 := Go.IntWalk.i64_in _ (by omega)
              have w20 : m.f2 + 1 ≠ 0 := by omega
              have w3 : Int.tmod (sh.getD i 0) (m.f2 + 1) = sAt m sh i := by rw [Int.tmod_eq_emod_of_nonneg hx5.1]; rfl
              have w4 : IntKind.i64.wrap (sAt m sh i) = sAt m sh i := Go.IntWalk.i64_in _ (by omega)
              have HX5 := Aside0.mk (And.intro hx5 hs5)
              generalize hss : sAt m sh i = s at *
              generalize sh.getD i 0 = x at *
              clear HR2 HR4 HSH hin hr5
              go_upto_region 15 with (fail)
              go_quiet (fail)
              have hlh := lohi (m := m) (by omega) (s := s) (by omega) (by omega)
              have a1 : IntKind.i64.wrap (1000 * s) = 1000 * s := Go.IntWalk.i64_in _ (by omega)
              have a2 : IntKind.i64.wrap (1000 * s + 999) = 1000 * s + 999 := Go.IntWalk.i64_in _ (by omega)
              have a3 : IntKind.i64.wrap (1000 * s + 999 + m.f3) = 1000 * s + 999 + m.f3 := Go.IntWalk.i64_in _ (by omega)
              have a4 : IntKind.i64.wrap (1000 + m.f3) = 1000 + m.f3 := Go.IntWalk.i64_in _ (by omega)
              have a40 : 1000 + m.f3 ≠ 0 := by omega
              have a5 : IntKind.i64.wrap (Int.tdiv (1000 * s + 999 + m.f3) (1000 + m.f3)) = loS m s := Go.IntWalk.i64_quo _ _ (by omega)
              have a6 : IntKind.i64.wrap (1000 - m.f3) = 1000 - m.f3 := Go.IntWalk.i64_in _ (by omega)
              have a60 : 1000 - m.f3 ≠ 0 := by omega
              have a7 : IntKind.i64.wrap (Int.tdiv (1000 * s) (1000 - m.f3)) = hiS m s := Go.IntWalk.i64_quo _ _ (by omega)
              generalize loS m s = lo at *
              generalize hiS m s = hi at *
              go_upto_region 16 with (fail)
              go_quiet (fail)
              clear a1 a2 a3 a4 a40 a5 a6 a60 a7 w1 w2 w20 w3 w4 x5 e2 e3
              go_upto_if 139 with (fail)
              go_cut [19] (fun v19 we => v19 = .int .i64 (if i < sl.length then sl.getD i 0 % (hi - lo + 1) else 0) ∧ ∃ k, we = wc.drewN k)
              case first =>
                by_cases hsl : i < sl.length
                · obtain ⟨ad6, e6, x6⟩ := Kd.at_int (Kd.C_below HR3.out HI2.out.hb) (i : Int) (by omega) (by omega)
                  subst e6
                  simp only [Int.toNat_natCast] at x6
                  have hr6 : Go.Proofs.YtknfkibnocfjiaaDoorW.PrintWords.rd sl (i : Int) = sl.getD i 0 := by show sl.getD (Int.toNat (i : Int)) 0 = _; rw [Int.toNat_natCast]
                  rw [hr6] at x6
                  have hx6 : 0 ≤ sl.getD i 0 ∧ sl.getD i 0 ≤ 255 := HSL.out _ (by rw [List.getD_eq_getElem?_getD, List.getElem?_eq_getElem hsl]; exact List.getElem_mem hsl)
                  have j6 : (i : Int) < (sl.length : Int) := by omega
                  have g6 : decide ((i : Int) < (sl.length : Int)) = true := decide_eq_true j6
                  have HIF : Aside0 ((if i < sl.length then sl.getD i 0 % (hi - lo + 1) else 0) = sl.getD i 0 % (hi - lo + 1)) := ⟨if_pos hsl⟩
                  have a1 : IntKind.i64.wrap (sl.getD i 0) = sl.getD i 0 := Go.IntWalk.i64_in _ (by omega)
                  have a2 : IntKind.i64.wrap (hi - lo) = hi - lo := Go.IntWalk.i64_in _ (by omega)
                  have a3 : IntKind.i64.wrap (hi - lo + 1) = hi - lo + 1 := Go.IntWalk.i64_in _ (by omega)
                  have a4 : hi - lo + 1 ≠ 0 := by omega
                  have a5 : Int.tmod (sl.getD i 0) (hi - lo + 1) = sl.getD i 0 % (hi - lo + 1) := Int.tmod_eq_emod_of_nonneg hx6.1
                  have a6 : IntKind.i64.wrap (sl.getD i 0 % (hi - lo + 1)) = sl.getD i 0 % (hi - lo + 1) := Go.IntWalk.i64_in _ (by have h1 := Int.emod_nonneg (sl.getD i 0) a4; have h2 := Int.emod_lt_of_pos (sl.getD i 0) (show 0 < hi - lo + 1 by omega); omega)
                  generalize sl.getD i 0 % (hi - lo + 1) = y at *
                  generalize sl.getD i 0 = x6v at *
                  clear hsl
                  go_wp2
                  go_meet
                  case rel => exact ⟨by rw [HIF.out], _, rfl⟩
                · have j6 : (sl.length : Int) ≤ (i : Int) := by omega
                  have g6 : decide ((i : Int) < (sl.length : Int)) = false := decide_eq_false (by omega)
                  have g7 : decide (i < sl.length) = false := decide_eq_false hsl
                  have HIF : Aside0 ((if i < sl.length then sl.getD i 0 % (hi - lo + 1) else 0) = 0) := ⟨if_neg hsl⟩
                  clear hsl
                  go_wp2
                  go_meet
                  case rel => exact ⟨by rw [HIF.out], _, rfl⟩
              case rest =>
                obtain ⟨rfl, kq, rfl⟩ := hcut
                have hby : 0 ≤ (if i < sl.length then sl.getD i 0 % (hi - lo + 1) else 0) ∧ (if i < sl.length then sl.getD i 0 % (hi - lo + 1) else 0) ≤ 10000000 := by
                  split
                  · have h1 := Int.emod_nonneg (sl.getD i 0) (show hi - lo + 1 ≠ 0 by omega); have h2 := Int.emod_lt_of_pos (sl.getD i 0) (show 0 < hi - lo + 1 by omega); omega
                  · omega
                generalize hyy : (if i < sl.length then sl.getD i 0 % (hi - lo + 1) else 0) = y at *
                have w9 : IntKind.i64.wrap (lo + y) = lo + y := Go.IntWalk.i64_in _ (by omega)
                have HIq := Aside0.mk ((HI2.out.drewN kq).drew)
                clear HI2 HR3 c2 c3 hyy HSL HX5
                go_upto_region 20 with (fail)
                go_cut [] (fun wf => ∃ vS' vC' : Value, Aside0 (MI w m H vS' vC' vR2 vS' vC' vR2 (.slice (some ⟨g, 0, none⟩) (sh.length + 1) cD) ((List.range (i + 1)).map (sAt m sh)) ((List.range (i + 1)).map (cAt m sh sl)) (rowR m st sh rd (i + 1)) (dRow m rd sh.length (i + 1)) wf))
                case first =>
                  have hss2 : sAt m sh i = s := hss
                  have HSS : Aside0 ((List.range (i + 1)).map (sAt m sh) = (List.range i).map (sAt m sh) ++ [s]) := ⟨by rw [List.range_succ, List.map_append, List.map_singleton, hss2]⟩
                  have HCC : Aside0 ((List.range (i + 1)).map (cAt m sh sl) = (List.range i).map (cAt m sh sl) ++ [lo + y]) := ⟨by rw [List.range_succ, List.map_append, List.map_singleton, HC5.out]⟩
                  clear hss hss2 HC5 HA5 HS5
                  refine wp_region_split 13 (fun W => W.heap[w.heap.size]? = some (.cells (cM m) 25 (0, 0)) ∧ W.heap[H]? = some (.cells (cH m vS vC vR2 (.slice (some ⟨g, 0, none⟩) (sh.length + 1) cD)) 53 (0, 0))) (by kernel_rfl) (by kernel_rfl) ?_
                  simp only [List.take_succ_cons, List.take_zero, List.drop_succ_cons, List.drop_zero]
                  generalize (wc.drewN kq).drew = wq at *
                  have HS := And.intro HIq.out.bM HIq.out.bH
                  refine take_held (v := .pointer (some ⟨H, 6, none⟩)) 0 rfl (by kernel_rfl) (by kernel_rfl) (by kernel_rfl) (fun _ _ _ h => h) (by rfl) HS (fun w9 h9 => ?hy) ?_
                  case hy => (skip; go_simp)
                  try simp only [Act.put, List.setIfInBounds_toArray, List.set_cons_zero, List.set_cons_succ]
                  refine take_held (v := vS) 1 rfl (by kernel_rfl) (by kernel_rfl) (by kernel_rfl) (fun _ _ _ h => h) (by rfl) HS (fun w9 h9 => ?hy) ?_
                  case hy => (have c6 : w9.cell? ⟨H, 6, none⟩ = some vS := (blk_cell h9.2 6).trans rfl; go_simp)
                  try simp only [Act.put, List.setIfInBounds_toArray, List.set_cons_zero, List.set_cons_succ]
                  refine take_held (v := .int .i64 s) 2 rfl (by kernel_rfl) (by kernel_rfl) (by kernel_rfl) (fun _ _ _ h => h) (by rfl) HS (fun w9 h9 => ?hy) ?_
                  case hy => (skip; go_simp)
                  try simp only [Act.put, List.setIfInBounds_toArray, List.set_cons_zero, List.set_cons_succ]
                  refine take_held (v := .pointer (some ⟨H, 7, none⟩)) 5 rfl (by kernel_rfl) (by kernel_rfl) (by kernel_rfl) (fun _ _ _ h => h) (by rfl) HS (fun w9 h9 => ?hy) ?_
                  case hy => (skip; go_simp)
                  try simp only [Act.put, List.setIfInBounds_toArray, List.set_cons_zero, List.set_cons_succ]
                  refine take_held (v := vC) 6 rfl (by kernel_rfl) (by kernel_rfl) (by kernel_rfl) (fun _ _ _ h => h) (by rfl) HS (fun w9 h9 => ?hy) ?_
                  case hy => (have c7 : w9.cell? ⟨H, 7, none⟩ = some vC := (blk_cell h9.2 7).trans rfl; go_simp)
                  try simp only [Act.put, List.setIfInBounds_toArray, List.set_cons_zero, List.set_cons_succ]
                  refine take_held (v := .int .i64 lo) 7 rfl (by kernel_rfl) (by kernel_rfl) (by kernel_rfl) (fun _ _ _ h => h) (by rfl) HS (fun w9 h9 => ?hy) ?_
                  case hy => (skip; go_simp)
                  try simp only [Act.put, List.setIfInBounds_toArray, List.set_cons_zero, List.set_cons_succ]
                  refine take_held (v := .int .i64 y) 8 rfl (by kernel_rfl) (by kernel_rfl) (by kernel_rfl) (fun _ _ _ h => h) (by rfl) HS (fun w9 h9 => ?hy) ?_
                  case hy => (skip; go_simp)
                  try simp only [Act.put, List.setIfInBounds_toArray, List.set_cons_zero, List.set_cons_succ]
                  refine take_held (v := .int .i64 (lo + y)) 9 rfl (by kernel_rfl) (by kernel_rfl) (by kernel_rfl) (fun _ _ _ h => h) (by rfl) HS (fun w9 h9 => ?hy) ?_
                  case hy => (skip; go_simp)
                  try simp only [Act.put, List.setIfInBounds_toArray, List.set_cons_zero, List.set_cons_succ]
                  refine both_held 3 10 rfl rfl (by kernel_rfl) (fun K hK => ?oa) (fun K hK => ?ob)
                  case oa =>
                    go_simp
                    have H1 := Aside0.mk (HIq.out.alloc (.cells #[.int .i64 s] 3))
                    have hA := blk_new wq (.cells #[.int .i64 s] 3)
                    replace HS := And.intro H1.out.bM H1.out.bH
                    refine hK.out _ _ HS ?_
                    try simp only [Act.put, List.setIfInBounds_toArray, List.set_cons_zero, List.set_cons_succ]
                    clear hK K
                    refine both_held 4 10 rfl rfl (by kernel_rfl) (fun K hK => ?oc) (fun K hK => ?od)
                    case oc =>
                      refine Kd.R_append_rows_step (Kd.int .i64) (Rr := intR) (w0 := w) w.heap.size (by rfl) (.tmp 151) (.tmp 153) 51 3 (.int .i64 0) 8 (by rfl) Tryd.underlying51 infoZ rfl (by decide) (by omega) vS ((List.range i).map (sAt m sh)) [s] _ 1 1 (fun _ => True) (fun _ => False) (by rfl) (by rfl) ?aO ?aR (fun y cs h => intR_M y cs h) (fun _ h => h.elim) (fun _ _ => trivial) ?aB ?aS ?aL ?_
                      case aO => exact H1.out.rS
                      case aR => exact int_one _ hA
                      case aB => exact H1.out.hb
                      case aS => exact H1.out.hb.size
                      case aL => (rw [List.length_map, List.length_range]; omega)
                      intro v1 wH2 ho hb hg hat
                      try simp only [Act.put, List.setIfInBounds_toArray, List.set_cons_zero, List.set_cons_succ]
                      rw [← HSS.out] at ho
                      obtain ⟨AH2, kH2, hv9⟩ := Kd.R_slice ho
                      rw [List.length_map, List.length_range] at hv9
                      subst hv9
                      have H2 := Aside0.mk (H1.out.appS ho hb hg hat)
                      clear ho hb hg hat
                      replace HS := And.intro H2.out.bM H2.out.bH
                      refine hK.out _ _ HS ?_
                      try simp only [Act.put, List.setIfInBounds_toArray, List.set_cons_zero, List.set_cons_succ]
                      clear hK K
                      refine take_held (v := .pointer (some ⟨H, 6, none⟩)) 12 rfl (by kernel_rfl) (by kernel_rfl) (by kernel_rfl) (fun _ _ _ h => h) (by rfl) HS (fun w9 h9 => ?hy) ?_
                      case hy => (skip; go_simp)
                      try simp only [Act.put, List.setIfInBounds_toArray, List.set_cons_zero, List.set_cons_succ]
                      refine only_held 10 rfl (by kernel_rfl) (fun K hK => ?_)
                      go_simp
                      have H3 := Aside0.mk (H2.out.alloc (.cells #[.int .i64 (lo + y)] 3))
                      have hB := blk_new wH2 (.cells #[.int .i64 (lo + y)] 3)
                      replace HS := And.intro H3.out.bM H3.out.bH
                      refine hK.out _ _ HS ?_
                      try simp only [Act.put, List.setIfInBounds_toArray, List.set_cons_zero, List.set_cons_succ]
                      clear hK K
                      refine only_held 11 rfl (by kernel_rfl) (fun K hK => ?_)
                      refine Kd.R_append_rows_step (Kd.int .i64) (Rr := intR) (w0 := w) w.heap.size (by rfl) (.tmp 156) (.tmp 160) 51 3 (.int .i64 0) 8 (by rfl) Tryd.underlying51 infoZ rfl (by decide) (by omega) vC ((List.range i).map (cAt m sh sl)) [(lo + y)] _ 1 1 (fun _ => True) (fun _ => False) (by rfl) (by rfl) ?aO ?aR (fun y cs h => intR_M y cs h) (fun _ h => h.elim) (fun _ _ => trivial) ?aB ?aS ?aL ?_
                      case aO => exact H3.out.rC
                      case aR => exact int_one _ hB
                      case aB => exact H3.out.hb
                      case aS => exact H3.out.hb.size
                      case aL => (rw [List.length_map, List.length_range]; omega)
                      intro v1 wH4 ho hb hg hat
                      try simp only [Act.put, List.setIfInBounds_toArray, List.set_cons_zero, List.set_cons_succ]
                      rw [← HCC.out] at ho
                      obtain ⟨AH4, kH4, hv9⟩ := Kd.R_slice ho
                      rw [List.length_map, List.length_range] at hv9
                      subst hv9
                      have H4 := Aside0.mk (H3.out.appC ho hb hg hat)
                      clear ho hb hg hat
                      replace HS := And.intro H4.out.bM H4.out.bH
                      refine hK.out _ _ HS ?_
                      try simp only [Act.put, List.setIfInBounds_toArray, List.set_cons_zero, List.set_cons_succ]
                      clear hK K
                      refine done_held (by kernel_rfl) ?_
                      show wpList _ _ _ _ _ _
                      have c6 : wH4.cell? ⟨H, 6, none⟩ = some vS := (blk_cell H4.out.bH 6).trans rfl
                      have f6 := blk_frozen H4.out.bH 6
                      have c7 : wH4.cell? ⟨H, 7, none⟩ = some vC := (blk_cell H4.out.bH 7).trans rfl
                      have f7 := blk_frozen H4.out.bH 7
                      have HF := Aside0.mk ((H4.out.set6 (.slice AH2 (i + 1) kH2)).set7 (.slice AH4 (i + 1) kH4))
                      clear HIq HS H1 H2 H3 H4
                      go_wp2
                      go_meet
                      case rel => exact ⟨_, _, HF⟩
                    case od =>
                      go_simp
                      have H2 := Aside0.mk (H1.out.alloc (.cells #[.int .i64 (lo + y)] 3))
                      have hB := blk_p1 wq (.cells #[.int .i64 s] 3) (.cells #[.int .i64 (lo + y)] 3)
                      replace HS := And.intro H2.out.bM H2.out.bH
                      refine hK.out _ _ HS ?_
                      try simp only [Act.put, List.setIfInBounds_toArray, List.set_cons_zero, List.set_cons_succ]
                      clear hK K
                      replace hA := blk_alloc hA (.cells #[.int .i64 (lo + y)] 3)
                      refine only_held 4 rfl (by kernel_rfl) (fun K hK => ?_)
                      refine Kd.R_append_rows_step (Kd.int .i64) (Rr := intR) (w0 := w) w.heap.size (by rfl) (.tmp 151) (.tmp 153) 51 3 (.int .i64 0) 8 (by rfl) Tryd.underlying51 infoZ rfl (by decide) (by omega) vS ((List.range i).map (sAt m sh)) [s] _ 1 1 (fun _ => True) (fun _ => False) (by rfl) (by rfl) ?aO ?aR (fun y cs h => intR_M y cs h) (fun _ h => h.elim) (fun _ _ => trivial) ?aB ?aS ?aL ?_
                      case aO => exact H2.out.rS
                      case aR => exact int_one _ hA
                      case aB => exact H2.out.hb
                      case aS => exact H2.out.hb.size
                      case aL => (rw [List.length_map, List.length_range]; omega)
                      intro v1 wH3 ho hb hg hat
                      try simp only [Act.put, List.setIfInBounds_toArray, List.set_cons_zero, List.set_cons_succ]
                      rw [← HSS.out] at ho
                      obtain ⟨AH3, kH3, hv9⟩ := Kd.R_slice ho
                      rw [List.length_map, List.length_range] at hv9
                      subst hv9
                      have H3 := Aside0.mk (H2.out.appS ho hb hg hat)
                      replace hB := blk_grown hB hg (fun e => by have := Kd.R_lt HIq.out.rS _ e.symm; omega)
                      clear ho hb hg hat
                      replace HS := And.intro H3.out.bM H3.out.bH
                      refine hK.out _ _ HS ?_
                      try simp only [Act.put, List.setIfInBounds_toArray, List.set_cons_zero, List.set_cons_succ]
                      clear hK K
                      refine take_held (v := .pointer (some ⟨H, 6, none⟩)) 12 rfl (by kernel_rfl) (by kernel_rfl) (by kernel_rfl) (fun _ _ _ h => h) (by rfl) HS (fun w9 h9 => ?hy) ?_
                      case hy => (skip; go_simp)
                      try simp only [Act.put, List.setIfInBounds_toArray, List.set_cons_zero, List.set_cons_succ]
                      refine only_held 11 rfl (by kernel_rfl) (fun K hK => ?_)
                      refine Kd.R_append_rows_step (Kd.int .i64) (Rr := intR) (w0 := w) w.heap.size (by rfl) (.tmp 156) (.tmp 160) 51 3 (.int .i64 0) 8 (by rfl) Tryd.underlying51 infoZ rfl (by decide) (by omega) vC ((List.range i).map (cAt m sh sl)) [(lo + y)] _ 1 1 (fun _ => True) (fun _ => False) (by rfl) (by rfl) ?aO ?aR (fun y cs h => intR_M y cs h) (fun _ h => h.elim) (fun _ _ => trivial) ?aB ?aS ?aL ?_
                      case aO => exact H3.out.rC
                      case aR => exact int_one _ hB
                      case aB => exact H3.out.hb
                      case aS => exact H3.out.hb.size
                      case aL => (rw [List.length_map, List.length_range]; omega)
                      intro v1 wH4 ho hb hg hat
                      try simp only [Act.put, List.setIfInBounds_toArray, List.set_cons_zero, List.set_cons_succ]
                      rw [← HCC.out] at ho
                      obtain ⟨AH4, kH4, hv9⟩ := Kd.R_slice ho
                      rw [List.length_map, List.length_range] at hv9
                      subst hv9
                      have H4 := Aside0.mk (H3.out.appC ho hb hg hat)
                      clear ho hb hg hat
                      replace HS := And.intro H4.out.bM H4.out.bH
                      refine hK.out _ _ HS ?_
                      try simp only [Act.put, List.setIfInBounds_toArray, List.set_cons_zero, List.set_cons_succ]
                      clear hK K
                      refine done_held (by kernel_rfl) ?_
                      show wpList _ _ _ _ _ _
                      have c6 : wH4.cell? ⟨H, 6, none⟩ = some vS := (blk_cell H4.out.bH 6).trans rfl
                      have f6 := blk_frozen H4.out.bH 6
                      have c7 : wH4.cell? ⟨H, 7, none⟩ = some vC := (blk_cell H4.out.bH 7).trans rfl
                      have f7 := blk_frozen H4.out.bH 7
                      have HF := Aside0.mk ((H4.out.set6 (.slice AH3 (i + 1) kH3)).set7 (.slice AH4 (i + 1) kH4))
                      clear HIq HS H1 H2 H3 H4
                      go_wp2
                      go_meet
                      case rel => exact ⟨_, _, HF⟩
                  case ob =>
                    go_simp
                    have H1 := Aside0.mk (HIq.out.alloc (.cells #[.int .i64 (lo + y)] 3))
                    have hB := blk_new wq (.cells #[.int .i64 (lo + y)] 3)
                    replace HS := And.intro H1.out.bM H1.out.bH
                    refine hK.out _ _ HS ?_
                    try simp only [Act.put, List.setIfInBounds_toArray, List.set_cons_zero, List.set_cons_succ]
                    clear hK K
                    refine only_held 3 rfl (by kernel_rfl) (fun K hK => ?_)
                    go_simp
                    have H2 := Aside0.mk (H1.out.alloc (.cells #[.int .i64 s] 3))
                    have hA := blk_p1 wq (.cells #[.int .i64 (lo + y)] 3) (.cells #[.int .i64 s] 3)
                    replace HS := And.intro H2.out.bM H2.out.bH
                    refine hK.out _ _ HS ?_
                    try simp only [Act.put, List.setIfInBounds_toArray, List.set_cons_zero, List.set_cons_succ]
                    clear hK K
                    replace hB := blk_alloc hB (.cells #[.int .i64 s] 3)
                    refine only_held 4 rfl (by kernel_rfl) (fun K hK => ?_)
                    refine Kd.R_append_rows_step (Kd.int .i64) (Rr := intR) (w0 := w) w.heap.size (by rfl) (.tmp 151) (.tmp 153) 51 3 (.int .i64 0) 8 (by rfl) Tryd.underlying51 infoZ rfl (by decide) (by omega) vS ((List.range i).map (sAt m sh)) [s] _ 1 1 (fun _ => True) (fun _ => False) (by rfl) (by rfl) ?aO ?aR (fun y cs h => intR_M y cs h) (fun _ h => h.elim) (fun _ _ => trivial) ?aB ?aS ?aL ?_
                    case aO => exact H2.out.rS
                    case aR => exact int_one _ hA
                    case aB => exact H2.out.hb
                    case aS => exact H2.out.hb.size
                    case aL => (rw [List.length_map, List.length_range]; omega)
                    intro v1 wH3 ho hb hg hat
                    try simp only [Act.put, List.setIfInBounds_toArray, List.set_cons_zero, List.set_cons_succ]
                    rw [← HSS.out] at ho
                    obtain ⟨AH3, kH3, hv9⟩ := Kd.R_slice ho
                    rw [List.length_map, List.length_range] at hv9
                    subst hv9
                    have H3 := Aside0.mk (H2.out.appS ho hb hg hat)
                    replace hB := blk_grown hB hg (fun e => by have := Kd.R_lt HIq.out.rS _ e.symm; omega)
                    clear ho hb hg hat
                    replace HS := And.intro H3.out.bM H3.out.bH
                    refine hK.out _ _ HS ?_
                    try simp only [Act.put, List.setIfInBounds_toArray, List.set_cons_zero, List.set_cons_succ]
                    clear hK K
                    refine take_held (v := .pointer (some ⟨H, 6, none⟩)) 12 rfl (by kernel_rfl) (by kernel_rfl) (by kernel_rfl) (fun _ _ _ h => h) (by rfl) HS (fun w9 h9 => ?hy) ?_
                    case hy => (skip; go_simp)
                    try simp only [Act.put, List.setIfInBounds_toArray, List.set_cons_zero, List.set_cons_succ]
                    refine only_held 11 rfl (by kernel_rfl) (fun K hK => ?_)
                    refine Kd.R_append_rows_step (Kd.int .i64) (Rr := intR) (w0 := w) w.heap.size (by rfl) (.tmp 156) (.tmp 160) 51 3 (.int .i64 0) 8 (by rfl) Tryd.underlying51 infoZ rfl (by decide) (by omega) vC ((List.range i).map (cAt m sh sl)) [(lo + y)] _ 1 1 (fun _ => True) (fun _ => False) (by rfl) (by rfl) ?aO ?aR (fun y cs h => intR_M y cs h) (fun _ h => h.elim) (fun _ _ => trivial) ?aB ?aS ?aL ?_
                    case aO => exact H3.out.rC
                    case aR => exact int_one _ hB
                    case aB => exact H3.out.hb
                    case aS => exact H3.out.hb.size
                    case aL => (rw [List.length_map, List.length_range]; omega)
                    intro v1 wH4 ho hb hg hat
                    try simp only [Act.put, List.setIfInBounds_toArray, List.set_cons_zero, List.set_cons_succ]
                    rw [← HCC.out] at ho
                    obtain ⟨AH4, kH4, hv9⟩ := Kd.R_slice ho
                    rw [List.length_map, List.length_range] at hv9
                    subst hv9
                    have H4 := Aside0.mk (H3.out.appC ho hb hg hat)
                    clear ho hb hg hat
                    replace HS := And.intro H4.out.bM H4.out.bH
                    refine hK.out _ _ HS ?_
                    try simp only [Act.put, List.setIfInBounds_toArray, List.set_cons_zero, List.set_cons_succ]
                    clear hK K
                    refine done_held (by kernel_rfl) ?_
                    show wpList _ _ _ _ _ _
                    have c6 : wH4.cell? ⟨H, 6, none⟩ = some vS := (blk_cell H4.out.bH 6).trans rfl
                    have f6 := blk_frozen H4.out.bH 6
                    have c7 : wH4.cell? ⟨H, 7, none⟩ = some vC := (blk_cell H4.out.bH 7).trans rfl
                    have f7 := blk_frozen H4.out.bH 7
                    have HF := Aside0.mk ((H4.out.set6 (.slice AH3 (i + 1) kH3)).set7 (.slice AH4 (i + 1) kH4))
                    clear HIq HS H1 H2 H3 H4
                    go_wp2
                    go_meet
                    case rel => exact ⟨_, _, HF⟩
                case rest =>
                  clear HIq
                  obtain ⟨vS2, vC2, HI3⟩ := hcut
                  have ha := atS_bd (m := m) ⟨by omega, by omega⟩ HST.out sh i
                  have b1 : IntKind.i64.wrap (atS m st sh i + s) = atS m st sh (i + 1) := by rw [HA5.out]; exact Go.IntWalk.i64_in _ (by omega)
                  have b2 : IntKind.i64.wrap ((i : Int) + 1) = (i : Int) + 1 := Go.IntWalk.i64_in _ (by omega)
                  generalize hat2 : atS m st sh (i + 1) = at2 at *
                  go_wp2
                  go_roundg (sh.length + 1 - (i + 1))
                  case measure => have := HK.out; omega
                  case rel => exact ⟨i + 1, vS2, vC2, vR2, by rw [hat2], by go_num, ⟨by omega, rfl⟩, HI3⟩
end Go.Proofs.YtknfkibnocfjiaaDoor.P
