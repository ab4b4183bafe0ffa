/- The contract of the laws' head: the examples come out as they should. -/
import Derived.Test.YtfkeelccnomjkaaDoorLPure
import Derived.Test.YtfkeelccnomjkaaDoorGDraw
namespace Go.Proofs.YtfkeelccnomjkaaDoor.P
open Go.RowKit Go.Proofs.YtfkeelccnomjkaaDoorW.PrintWords Go.Proofs.YtfkeelccnomjkaaDoorW.PrintLast Go.Proofs.YtfkeelccnomjkaaDoorW.PrintMore Go.Proofs.YtfkeelccnomjkaaDoor.M
set_option linter.unusedVariables false
set_option linter.unusedSimpArgs false
theorem flat_at {α β : Type} (f : α → List β) (n : Nat) (hf : ∀ x, (f x).length = n) : ∀ (xs : List α) (j : Nat) (x : α), xs[j]? = some x → ((xs.flatMap f).drop (j * n)).take n = f x := by
  intro xs
  induction xs with
  | nil => intro j x h; simp at h
  | cons y ys ih =>
    intro j x h
    cases j with
    | zero =>
      simp at h
      subst h
      rw [Nat.zero_mul, List.drop_zero, List.flatMap_cons, List.take_append_of_le_length (by rw [hf]; exact Nat.le_refl _), ← hf y, List.take_length]
    | succ j =>
      rw [List.getElem?_cons_succ] at h
      rw [List.flatMap_cons, Nat.succ_mul, Nat.add_comm, ← List.drop_drop, List.drop_append_of_le_length (by rw [hf]; exact Nat.le_refl _), ← hf y, List.drop_length, List.nil_append, hf y]
      exact ih j x h
/-- A block that holds a list of elements, read. -/
theorem C_blk {α : Type} (d : Kd α) (f : α → List Value) (hf : ∀ x, (f x).length = d.sz) {W : World} {b : Nat} {t : TypeId} (xs : List α) (hK : ∀ x ∈ xs, d.K W x (f x)) (h : W.heap[b]? = some (.cells (xs.flatMap f).toArray t (0, 0))) (hl : xs.length ≤ 9223372036854775807) : Kd.C d W (some ⟨b, 0, none⟩) xs.length xs := by
  refine ⟨rfl, hl, fun _ => ⟨_, rfl, fun j p hj => ⟨f p, hf p, hK p (List.mem_of_getElem? hj), fun i u hi => ?_⟩⟩⟩
  have hil : i < (f p).length := (List.getElem?_eq_some_iff.1 hi).1
  rw [hf] at hil
  rw [add_plain, blk_cell h, List.getElem?_toArray]
  have e := flat_at f d.sz hf xs j p hj
  rw [← e, List.getElem?_take_of_lt hil, List.getElem?_drop] at hi
  exact hi
def cells47 (x : S47) : List Value := [.int .i64 x.f0, .int .i64 x.f1]
def cells23 (x : S23) : List Value := [.int .i64 x.f0, .int .i64 x.f1, .int .i64 x.f2]
theorem C_blk47 {W : World} {b : Nat} {t : TypeId} (xs : List S47) (h : W.heap[b]? = some (.cells (xs.flatMap cells47).toArray t (0, 0))) (hl : xs.length ≤ 9223372036854775807) : Kd.C k47 W (some ⟨b, 0, none⟩) xs.length xs :=
  C_blk k47 cells47 (fun _ => rfl) xs (fun x _ => k47_mk W x) h hl
theorem C_blk23 {W : World} {b : Nat} {t : TypeId} (xs : List S23) (h : W.heap[b]? = some (.cells (xs.flatMap cells23).toArray t (0, 0))) (hl : xs.length ≤ 9223372036854775807) : Kd.C k23 W (some ⟨b, 0, none⟩) xs.length xs :=
  C_blk k23 cells23 (fun _ => rfl) xs (fun x _ => k23_mk W x) h hl
/-- One pledge in a block. -/
theorem C_pl1 {W : World} {b : Nat} {t : TypeId} (p : S31) {A : Option Addr} {n c : Nat} (hn : p.f2.length = n) (hc : n ≤ c) (hR : Kd.C k47 W A p.f2.length p.f2) (h : W.heap[b]? = some (.cells #[.int .i64 p.f0, .int .u64 p.f1, .slice A n c] t (0, 0))) : Kd.C k31 W (some ⟨b, 0, none⟩) [p].length [p] := by
  subst hn
  refine ⟨rfl, show 1 ≤ 9223372036854775807 by decide, fun _ => ⟨_, rfl, fun j q hj => ?_⟩⟩
  cases j with
  | succ j => simp at hj
  | zero =>
    have e : p = q := by simpa using hj
    subst e
    refine ⟨[.int .i64 p.f0, .int .u64 p.f1, .slice A p.f2.length c], rfl, k31_mk W p hc hR, fun i u hi => ?_⟩
    rw [Nat.zero_mul, Nat.zero_add, add_plain, blk_cell h]
    simpa using hi
theorem sh3 : dealF 1 5 7 [2] 3 = (1, sumF 1 5 7, [⟨1, 7⟩, ⟨2, 9⟩, ⟨3, 11⟩], 0) := by
  unfold dealF
  rw [if_pos (by decide)]
  show (1, sumF 1 5 7, dealSh 5 [2] 3, 0) = _
  have e : dealSh 5 [2] 3 = [⟨1, 7⟩, ⟨2, 9⟩, ⟨3, 11⟩] := by
    unfold dealSh
    simp [List.range_succ, atF, Go.Proofs.YtfkeelccnomjkaaDoor.QF.ev]
  rw [e]
theorem sh1 : dealF 1 9 7 [] 1 = (1, sumF 1 9 7, [⟨1, 9⟩], 0) := by
  unfold dealF
  rw [if_pos (by decide)]
  show (1, sumF 1 9 7, dealSh 9 [] 1, 0) = _
  have e : dealSh 9 [] 1 = [⟨1, 9⟩] := by
    unfold dealSh
    simp [List.range_succ, atF, Go.Proofs.YtfkeelccnomjkaaDoor.QF.ev]
  rw [e]
theorem rec1 : recF [⟨3, 11⟩, ⟨2, 9⟩] = (5, 0) := by
  rw [recF_on (f := [5, 2]) (by decide) (by decide) (by decide) ?_]
  · rw [atF_zero _ (by decide)]
  · intro s hs
    simp only [List.mem_cons, List.not_mem_nil, or_false] at hs
    rcases hs with rfl | rfl <;> simp [atF, Go.Proofs.YtfkeelccnomjkaaDoor.QF.ev]
theorem rec2 : recF [⟨2, 1⟩, ⟨2, 1⟩] = (0, 1) := by
  unfold recF
  rw [if_neg (by decide)]
theorem lot3 : lotsF 0 3 = ([2, 1, 3], 0) := by decide
theorem val1 : valF [⟨1, 9⟩] 1 = (9, true) := by
  unfold valF
  rw [if_pos (by rfl)]
  show (thrF [⟨1, 9⟩] 0, true) = _
  rw [thr_on (f := [9]) (by decide) (by decide) (by decide) ?_, atF_zero _ (by decide)]
  intro s hs
  rw [List.mem_singleton] at hs
  subst hs
  simp [atF, Go.Proofs.YtfkeelccnomjkaaDoor.QF.ev]
theorem draw1 : drawF [⟨1, sumF 1 9 7, [⟨1, 9⟩]⟩] 1 [⟨1, 9, 7⟩] = (9, [], 0) := by
  generalize hs : sumF 1 9 7 = s
  have hf : fitsB [⟨1, 9, 7⟩] ⟨1, s, [⟨1, 9⟩]⟩ = true := by
    show decide (sumF 1 9 7 = s) = true
    rw [hs]; simp
  have hc : cheatB [⟨1, 9, 7⟩] 1 ⟨1, s, [⟨1, 9⟩]⟩ = false := by
    unfold cheatB
    rw [show (S31.mk 1 s [⟨1, 9⟩]).f2 = [⟨1, 9⟩] from rfl, val1]
    show (!true || (!decide (sumF 1 9 7 = s) || decide ((9 : Int) ≠ 9))) = false
    rw [hs]; simp
  unfold drawF
  rw [if_pos (by rfl)]
  have hr : rightN [⟨1, s, [⟨1, 9⟩]⟩] [⟨1, 9, 7⟩] = 1 := by unfold rightN; rw [List.filter_cons_of_pos hf]; rfl
  rw [hr, if_neg (by decide)]
  have hch : cheatsL [⟨1, s, [⟨1, 9⟩]⟩] [⟨1, 9, 7⟩] (1 : Int).toNat = [] := by
    unfold cheatsL
    rw [show (1 : Int).toNat = 1 from rfl, List.filter_cons_of_neg (by rw [hc]; decide)]; rfl
  have hsd : seedF [⟨1, s, [⟨1, 9⟩]⟩] (1 : Int).toNat = 9 := by
    unfold seedF
    show (0 + (valF [⟨1, 9⟩] 1).1) % 1073741789 = 9
    rw [val1]; rfl
  rw [hch, hsd]
theorem draw2 : drawF [⟨1, sumF 1 9 7, [⟨1, 9⟩]⟩] 1 [] = (0, [], 33) := by
  generalize sumF 1 9 7 = s
  unfold drawF
  rw [if_pos (by rfl)]
  have hr : rightN [⟨1, s, [⟨1, 9⟩]⟩] [] = 0 := rfl
  rw [hr, if_pos (by decide)]
theorem hD1 (A : Option Addr) (W : World) (hr : Kd.C (Kd.int .i64) W A [2].length [2]) (hg : Gl W) : Calls Tryd.prog 11 #[.agg #[.int .i64 1, .int .i64 5, .int .i64 7], .slice A 1 1, .int .i64 3] W fun e w' => ∃ v : Value, e = .returned (.tuple #[.agg #[.int .i64 1, .int .u64 (sumF 1 5 7), v], .int .i64 0]) ∧ Kd.R k47 47 w' W.heap.size (fun _ => True) v [⟨1, 7⟩, ⟨2, 9⟩, ⟨3, 11⟩] ∧ Below W.heap.size W w' := by
  obtain ⟨K, hK⟩ := (deal_ev (who := 1) (v := 5) (salt := 7) (coefs := [2]) (n := 3) (by decide) (by decide) (by decide)).rounds
  rw [sh3] at hK
  exact lottery_Deal.calls K 1 5 7 A 1 [2] 3 _ _ _ _ W hr (by decide) hK hg
theorem hD2 (W : World) (hg : Gl W) : Calls Tryd.prog 11 #[.agg #[.int .i64 1, .int .i64 9, .int .i64 7], .slice none 0 0, .int .i64 1] W fun e w' => ∃ v : Value, e = .returned (.tuple #[.agg #[.int .i64 1, .int .u64 (sumF 1 9 7), v], .int .i64 0]) ∧ Kd.R k47 47 w' W.heap.size (fun _ => True) v [⟨1, 9⟩] ∧ Below W.heap.size W w' := by
  obtain ⟨K, hK⟩ := (deal_ev (who := 1) (v := 9) (salt := 7) (coefs := []) (n := 1) (by decide) (by decide) (by decide)).rounds
  rw [sh1] at hK
  exact lottery_Deal.calls K 1 9 7 none 0 [] 1 _ _ _ _ W (Kd.C_nil _ _) (by decide) hK hg
theorem hV1 (b : Nat) (t : TypeId) (W : World) (h : W.heap[b]? = some (.cells #[.int .i64 3, .int .i64 11, .int .i64 2, .int .i64 9] t (0, 0))) : Calls Tryd.prog 14 #[.slice (some ⟨b, 0, none⟩) 2 2] W fun e w' => e = .returned (.tuple #[.int .i64 5, .int .i64 0]) ∧ Below W.heap.size W w' :=
  lottery_Recover.calls _ 2 [⟨3, 11⟩, ⟨2, 9⟩] 5 0 W (C_blk47 [⟨3, 11⟩, ⟨2, 9⟩] h (show 2 ≤ 9223372036854775807 by decide)) (by decide) (by unfold lottery_Recover.f; rw [rec1])
theorem hV2 (b : Nat) (t : TypeId) (W : World) (h : W.heap[b]? = some (.cells #[.int .i64 2, .int .i64 1, .int .i64 2, .int .i64 1] t (0, 0))) : Calls Tryd.prog 14 #[.slice (some ⟨b, 0, none⟩) 2 2] W fun e w' => e = .returned (.tuple #[.int .i64 0, .int .i64 1]) ∧ Below W.heap.size W w' :=
  lottery_Recover.calls _ 2 [⟨2, 1⟩, ⟨2, 1⟩] 0 1 W (C_blk47 [⟨2, 1⟩, ⟨2, 1⟩] h (show 2 ≤ 9223372036854775807 by decide)) (by decide) (by unfold lottery_Recover.f; rw [rec2])
theorem hL3 (W : World) : Calls Tryd.prog 19 #[.int .i64 0, .int .i64 3] W fun e w' => ∃ v : Value, e = .returned (.tuple #[v, .int .i64 0]) ∧ Kd.R (Kd.int .i64) 3 w' W.heap.size (fun _ => True) v [2, 1, 3] ∧ Below W.heap.size W w' := by
  obtain ⟨K, hK⟩ := (lots_ev 0 3).rounds
  rw [lot3] at hK
  exact lottery_Lots.calls K 0 3 _ _ W hK
theorem hW1 (b b' : Nat) (t t' : TypeId) (A : Option Addr) (c : Nat) (hc : 1 ≤ c) (W : World) (h : W.heap[b]? = some (.cells #[.int .i64 1, .int .u64 (sumF 1 9 7), .slice A 1 c] t (0, 0))) (hR : Kd.C k47 W A 1 [⟨1, 9⟩]) (h' : W.heap[b']? = some (.cells #[.int .i64 1, .int .i64 9, .int .i64 7] t' (0, 0))) (hg : Gl W) :
    Calls Tryd.prog 16 #[.slice (some ⟨b, 0, none⟩) 1 1, .int .i64 1, .slice (some ⟨b', 0, none⟩) 1 1] W fun e w' => ∃ v : Value, e = .returned (.tuple #[.int .i64 9, v, .int .i64 0]) ∧ Kd.R (Kd.int .i64) 3 w' W.heap.size (fun _ => True) v [] ∧ Below W.heap.size W w' :=
  lottery_Draw.calls _ 1 [⟨1, sumF 1 9 7, [⟨1, 9⟩]⟩] 1 _ 1 [⟨1, 9, 7⟩] 9 [] 0 W (C_pl1 ⟨1, sumF 1 9 7, [⟨1, 9⟩]⟩ rfl hc hR h) (Nat.le_refl 1) (C_blk23 [⟨1, 9, 7⟩] h' (show 1 ≤ 9223372036854775807 by decide)) (Nat.le_refl 1)
    (by rw [lottery_Draw.ok (l := [⟨1, sumF 1 9 7, [⟨1, 9⟩]⟩]) (op := [⟨1, 9, 7⟩]) 1 (show 1 ≤ 1000 by decide) (show 1 ≤ 1000 by decide) (fun s hs => by rw [List.mem_singleton] at hs; subst hs; decide), draw1]) hg
theorem hW2 (b : Nat) (t : TypeId) (A : Option Addr) (c : Nat) (hc : 1 ≤ c) (W : World) (h : W.heap[b]? = some (.cells #[.int .i64 1, .int .u64 (sumF 1 9 7), .slice A 1 c] t (0, 0))) (hR : Kd.C k47 W A 1 [⟨1, 9⟩]) (hg : Gl W) :
    Calls Tryd.prog 16 #[.slice (some ⟨b, 0, none⟩) 1 1, .int .i64 1, .slice none 0 0] W fun e w' => ∃ v : Value, e = .returned (.tuple #[.int .i64 0, v, .int .i64 33]) ∧ Kd.R (Kd.int .i64) 3 w' W.heap.size (fun _ => True) v [] ∧ Below W.heap.size W w' :=
  lottery_Draw.calls _ 1 [⟨1, sumF 1 9 7, [⟨1, 9⟩]⟩] 1 none 0 [] 0 [] 33 W (C_pl1 ⟨1, sumF 1 9 7, [⟨1, 9⟩]⟩ rfl hc hR h) (Nat.le_refl 1) (Kd.C_nil _ _) (Nat.le_refl 0)
    (by rw [lottery_Draw.ok (l := [⟨1, sumF 1 9 7, [⟨1, 9⟩]⟩]) (op := []) 1 (show 1 ≤ 1000 by decide) (show 0 ≤ 1000 by decide) (fun s hs => absurd hs List.not_mem_nil), draw2]) hg
theorem hI3 (A A' : Option Addr) (c : Nat) (hc : 3 ≤ c) (W : World) (h : Kd.C (Kd.int .i64) W A 3 [2, 1, 3]) (h' : Kd.C (Kd.int .i64) W A' [2, 1, 3].length [2, 1, 3]) : Calls Tryd.prog 18 #[.slice A 3 c, .slice A' 3 3] W fun e w' => e = .returned (.bool true) ∧ Drawn0 W w' := by
  obtain ⟨K, hK⟩ := (ints_ev [2, 1, 3] [2, 1, 3] (by decide)).rounds
  exact cohousingref22_Ints.calls K A c [2, 1, 3] A' 3 [2, 1, 3] true W h hc h' (by decide) hK
theorem C_three {W : World} {g : Nat} {t : TypeId} (x y z : Int) (h : W.heap[g]? = some (.cells #[.int .i64 x, .int .i64 y, .int .i64 z] t (0, 0))) : Kd.C (Kd.int .i64) W (some ⟨g, 0, none⟩) [x, y, z].length [x, y, z] := C_ints_blk [x, y, z] h (show 3 ≤ 9223372036854775807 by decide)
def cohousinglaw22_head.f : Option Bool := some true
set_option maxHeartbeats 16000000 in
set_option maxRecDepth 100000 in
theorem head_true (w : World) (hg : Gl w) : Calls Tryd.prog 10 #[] w fun e w' => e = .returned (.bool true) ∧ Below w.heap.size w w' := by
  have HG := Aside0.mk hg
  have hu31 := Tryd.underlying31
  have hu47 := Tryd.underlying47
  have hu23 := Tryd.underlying23
  have HB0 := Aside0.mk (below_alloc (Below.refl w.heap.size w) (.cells #[.int .i64 2] 3))
  clear hg
  go_enter Tryd.func10, Tryd.ntmps10
  go_upto_region 5 with (first
    | (go_at_call 11; (with_reducible refine (hD1 _ _ (C_one 2 (blk_new w _)) (HG.out.below HB0.out)).mono ?_); rintro e w1 ⟨v1, rfl, hR, hd⟩; obtain ⟨gs, c1, rfl, -, -, -⟩ := Kd.R_form hR (by decide); have hc1 := (Kd.R_reads' hR).2.2; have HC1 : Aside0 (Kd.C k47 w1 (some ⟨gs, 0, none⟩) 3 [⟨1, 7⟩, ⟨2, 9⟩, ⟨3, 11⟩]) := ⟨hc1⟩; have HB1 := Aside0.mk (below_step HB0.out hd); have BP := Aside0.mk (blk_new w1 (.cells #[.int .i64 1, .int .u64 (sumF 1 5 7), .slice (some ⟨gs, 0, none⟩) 3 c1] 31)); have HN1 := HB1.out.size; clear hR hc1 hd)
    | (go_at_call 14; (with_reducible refine (hV1 _ _ _ (blk_p1 w1 _ (.cells #[.int .i64 3, .int .i64 11, .int .i64 2, .int .i64 9] 47))).mono ?_); rintro e w2 ⟨rfl, hd⟩; have BP2 := Aside0.mk (blk_below (blk_alloc BP.out _) hd); have HC2 := Aside0.mk (Kd.C_below (Kd.C_alloc (Kd.C_alloc HC1.out _) _) hd); have HB2 := Aside0.mk (below_step (below_alloc (below_alloc HB1.out _) _) hd); clear hd)
    | (go_at_call 19; (with_reducible refine (hL3 _).mono ?_); rintro e w3 ⟨v3, rfl, hR, hd⟩; obtain ⟨A3, c3, rfl, hl3, hc3⟩ := Kd.R_reads hR; have HCL3 : Aside0 (Kd.C (Kd.int .i64) w3 A3 3 [2, 1, 3]) := ⟨hc3⟩; have HL3 : Aside0 (3 ≤ c3) := ⟨hl3⟩; have BP3 := Aside0.mk (blk_below BP2.out hd); have HC3 := Aside0.mk (Kd.C_below HC2.out hd); have HB3 := Aside0.mk (below_step HB2.out hd); clear hR hl3 hc3 hd)
    | (go_at_call 14; (with_reducible refine (hV2 _ _ _ (blk_new w3 (.cells #[.int .i64 2, .int .i64 1, .int .i64 2, .int .i64 1] 47))).mono ?_); rintro e w4 ⟨rfl, hd⟩; have BP4 := Aside0.mk (blk_below (blk_alloc BP3.out _) hd); have HC4 := Aside0.mk (Kd.C_below (Kd.C_alloc HC3.out _) hd); have HCL4 := Aside0.mk (Kd.C_below (Kd.C_alloc HCL3.out _) hd); have HB4 := Aside0.mk (below_step (below_alloc HB3.out _) hd); clear hd))
  clear HB0 HB1 BP BP2 BP3 HC1 HC2 HC3 HCL3 HB2 HB3
  generalize w1.heap.size = g1 at *
  have hw4 := blk_lt BP4.out
  have hwz := HB4.out.size
  go_upto_region 8 with (first
    | (go_at_call 11; (with_reducible refine (hD2 _ (HG.out.below HB4.out)).mono ?_); rintro e w5 ⟨v5, rfl, hR, hd⟩; obtain ⟨A5, c5, rfl, hl5, hc5⟩ := Kd.R_reads hR; have HS5 : Aside0 (Kd.C k47 w5 A5 1 [⟨1, 9⟩]) := ⟨hc5⟩; have HL5 : Aside0 (1 ≤ c5) := ⟨hl5⟩; have HC5 := Aside0.mk (Kd.C_below HC4.out hd); have HCL5 := Aside0.mk (Kd.C_below HCL4.out hd); have BP5 := Aside0.mk (blk_below BP4.out hd); have HB5 := Aside0.mk (below_step HB4.out hd); have BQ5 := Aside0.mk (blk_new w5 (.cells #[.int .i64 1, .int .u64 (sumF 1 9 7), .slice A5 1 c5] 31)); have HN5 := HB5.out.size; have hsz5 := hd.size; clear hR hl5 hc5 hd)
    | (go_at_call 16; (with_reducible refine (hW1 _ _ 31 23 A5 c5 HL5.out _ (blk_alloc (blk_p1 w5 _ (.cells #[.int .i64 1, .int .u64 (sumF 1 9 7), .slice A5 1 c5] 31)) _) (Kd.C_alloc (Kd.C_alloc (Kd.C_alloc HS5.out _) _) _) (blk_p2 w5 _ _ (.cells #[.int .i64 1, .int .i64 9, .int .i64 7] 23)) (HG.out.below (below_alloc (below_alloc (below_alloc HB5.out _) _) _))).mono ?_); rintro e w6 ⟨v6, rfl, hR, hd⟩; obtain ⟨A6, c6, rfl, -, -⟩ := Kd.R_reads hR; have BQ6 := Aside0.mk (blk_below (blk_alloc (blk_alloc BQ5.out _) _) hd); have HS6 := Aside0.mk (Kd.C_below (Kd.C_alloc (Kd.C_alloc (Kd.C_alloc HS5.out _) _) _) hd); have HC6 := Aside0.mk (Kd.C_below (Kd.C_alloc (Kd.C_alloc (Kd.C_alloc HC5.out _) _) _) hd); have HCL6 := Aside0.mk (Kd.C_below (Kd.C_alloc (Kd.C_alloc (Kd.C_alloc HCL5.out _) _) _) hd); have BP6 := Aside0.mk (blk_below (blk_alloc (blk_alloc (blk_alloc BP5.out _) _) _) hd); have HB6 := Aside0.mk (below_step (below_alloc (below_alloc (below_alloc HB5.out _) _) _) hd); have q0 : w6.cell? ⟨w5.heap.size, 0, none⟩ = some (.int .i64 1) := (blk_cell BQ6.out 0).trans rfl; have q1 : w6.cell? ⟨w5.heap.size, 1, none⟩ = some (.int .u64 (sumF 1 9 7)) := (blk_cell BQ6.out 1).trans rfl; have q2 : w6.cell? ⟨w5.heap.size, 2, none⟩ = some (.slice A5 1 c5) := (blk_cell BQ6.out 2).trans rfl; clear hR hd)
    | (go_at_call 16; (with_reducible refine (hW2 _ 31 A5 c5 HL5.out _ (blk_new w6 (.cells #[.int .i64 1, .int .u64 (sumF 1 9 7), .slice A5 1 c5] 31)) (Kd.C_alloc HS6.out _) (HG.out.below (below_alloc HB6.out _))).mono ?_); rintro e w7 ⟨v7, rfl, hR, hd⟩; obtain ⟨A7, c7, rfl, -, -⟩ := Kd.R_reads hR; have HC7 := Aside0.mk (Kd.C_below (Kd.C_alloc HC6.out _) hd); have HCL7 := Aside0.mk (Kd.C_below (Kd.C_alloc HCL6.out _) hd); have BP7 := Aside0.mk (blk_below (blk_alloc BP6.out _) hd); have HB7 := Aside0.mk (below_step (below_alloc HB6.out _) hd); clear hR hd))
  clear BQ5 BQ6 HS5 HS6 HC4 HC5 HC6 HCL4 HCL5 HCL6 HB4 HB5 HB6 BP4 BP5 BP6 q0 q1 q2 HL5
  generalize w5.heap.size = g5 at *
  obtain ⟨ad, e0, x0, x1⟩ := at_T47 HC7.out 0 (by decide) (by decide)
  obtain ⟨ad', e2, x2, x3⟩ := at_T47 HC7.out 2 (by decide) (by decide)
  cases e0
  cases e2
  have p2 : w7.cell? ⟨g1, 2, none⟩ = some (.slice (some ⟨gs, 0, none⟩) 3 c1) := (blk_cell BP7.out 2).trans rfl
  have y0 : w7.cell? ⟨gs, 0, none⟩ = some (.int .i64 1) := by simpa [add_plain, rd_T47] using x0
  have y1 : w7.cell? ⟨gs, 1, none⟩ = some (.int .i64 7) := by simpa [add_plain, rd_T47] using x1
  have y2 : w7.cell? ⟨gs, 4, none⟩ = some (.int .i64 3) := by simpa [add_plain, rd_T47] using x2
  have y3 : w7.cell? ⟨gs, 5, none⟩ = some (.int .i64 11) := by simpa [add_plain, rd_T47] using x3
  clear x0 x1 x2 x3
  go_wp2_with (go_at_call 18; (with_reducible refine (hI3 A3 _ c3 HL3.out _ (Kd.C_alloc HCL7.out _) (C_three 2 1 3 (blk_new w7 _))).mono ?_); rintro e w8 ⟨rfl, ⟨nd, rfl⟩⟩)
  go_ret
  exact ⟨rfl, pw_below_drewN (below_alloc HB7.out _) _⟩
theorem cohousinglaw22_head.calls (r : Bool) (w : World) (h : cohousinglaw22_head.f = some r) (hg : Gl w) : Calls Tryd.prog 10 #[] w fun e w' => e = .returned (.bool r) ∧ Below w.heap.size w w' := by
  obtain rfl := Option.some.inj h
  exact head_true w hg
end Go.Proofs.YtfkeelccnomjkaaDoor.P
