/- The contract of ledger.Accounts: the names of all accounts, in order. -/
import Derived.Test.YtnheelncgpgkiaaGSum
import Derived.Test.YtnheelncgpgkiaaMapKeys
import Derived.Test.YtnheelncgpgkiaaIter
import Derived.Deep.RegionHeld3
namespace Go.Proofs.Ytnheelncgpgkiaa.P
open Go.RowKit Go.Proofs.YtnheelncgpgkiaaW.PrintWords Go.Proofs.YtnheelncgpgkiaaW.PrintLast Go.Proofs.YtnheelncgpgkiaaW.PrintMore Go.Proofs.Ytnheelncgpgkiaa.M
open Go.Maps (Keyed string_keyed)
set_option linter.unusedVariables false
set_option linter.unusedSimpArgs false

def namesOf (l : List S24) : List ByteArray := l.flatMap fun x => [x.f4, x.f5]
/-- The names of all accounts, in order. -/
def namesL (l : List S24) : List ByteArray := putNs [] (namesOf l)
def ledger_Accounts.f (l0 : List S24) : Option (List ByteArray × Int) := if l0.all smallE = true then some (if validL l0 = true then (namesL l0, 0) else ([], 1)) else none
theorem ris_namesL (l : List S24) : RisN (namesL l) := ris_putNs _ _ List.Pairwise.nil
theorem mem_namesL (l : List S24) (x : ByteArray) : x ∈ namesL l ↔ ∃ y ∈ l, x = y.f4 ∨ x = y.f5 := by
  unfold namesL namesOf
  rw [mem_putNs, List.mem_flatMap]
  simp
theorem putNs_append (l a b : List ByteArray) : putNs l (a ++ b) = putNs (putNs l a) b := by unfold putNs; rw [List.foldl_append]
theorem namesL_snoc (l : List S24) (x : S24) : namesL (l ++ [x]) = putN (putN (namesL l) x.f4) x.f5 := by
  unfold namesL namesOf
  rw [List.flatMap_append, putNs_append]
  rfl
theorem accB_size {s : ByteArray} (h : accB s = true) : s.size ≤ 16 := by
  unfold accB at h
  simp only [Bool.and_eq_true, decide_eq_true_eq] at h
  exact h.1.2
theorem validE_sizes {x : S24} (h : validE x = true) : x.f4.size ≤ 16 ∧ x.f5.size ≤ 16 := by
  unfold validE at h
  simp only [Bool.and_eq_true, decide_eq_true_eq] at h
  exact ⟨accB_size h.1.1.2, accB_size h.1.2⟩
theorem len_putN_le (l : List ByteArray) (s : ByteArray) : (putN l s).length ≤ l.length + 1 := by
  induction l with
  | nil => simp [putN]
  | cons a l ih => unfold putN; split <;> (try split) <;> simp <;> omega
theorem len_putNs_le : ∀ (ss l : List ByteArray), (putNs l ss).length ≤ l.length + ss.length
  | [], l => by simp [putNs]
  | s :: ss, l => by
    have h1 := len_putNs_le ss (putN l s)
    have h2 := len_putN_le l s
    show (putNs (putN l s) ss).length ≤ _
    simp only [List.length_cons]; omega
theorem len_namesL (l : List S24) : (namesL l).length ≤ 2 * l.length := by
  have h := len_putNs_le (namesOf l) []
  have : (namesOf l).length = 2 * l.length := by
    clear h
    unfold namesOf
    induction l with
    | nil => rfl
    | cons x l ih => rw [List.flatMap_cons, List.length_append, ih]; simp; omega
  unfold namesL
  simp at h; omega

theorem keyOf_str_mk {s : ByteArray} (h : s.size ≤ 16) : keyOf Try.prog 9 (.string s) = some (.string s.data.toList) := by
  have : s.size ≤ maxLen := by simp only [maxLen]; omega
  simp [keyOf, Try.underlying9, mapKey, this]
theorem keyStr : Keyed Try.prog 9 := string_keyed Try.underlying9
/-- Behind the two calls of the library's. -/
theorem names_row {W : World} {b : Nat} {ns : List ByteArray} {v : Value} {ss : List (List UInt8)} {D : DataW Unit} (hnd : (Go.strKeys D).Nodup) (hr : RisN ns) (hm : ∀ x, x ∈ Go.strKeys D ↔ (strF Value.bool (memF ns) (encStr x)).isSome = true)
    (hp : ss.Perm (Go.strKeys D)) (hrow : W.ownsRow b 9 1 v ss.length ((ss.mergeSort (fun x y => decide (x ≤ y))).map encStr)) : Kd.R Kd.string 9 W b (fun _ => True) v ns := by
  have h1 := sort_names (ss := ss) (ns := ns) (hp.symm.nodup hnd) hr (fun x => by
    rw [hp.mem_iff, hm x, strF_some]
    unfold memF
    split <;> simp [*])
  rw [h1.1, h1.2] at hrow
  exact ⟨fun _ _ => trivial, ns.map Value.string, hrow, Kd.reps_scalar ns⟩

set_option maxHeartbeats 8000000 in
set_option maxRecDepth 100000 in
theorem ledger_Accounts.calls (A0 : Option Addr) (c0 : Nat) (l0 : List S24) (r1 : List ByteArray) (r2 : Int) (w : World) (hr0 : Kd.C k24 w A0 l0.length l0) (hc0 : l0.length ≤ c0) (h : ledger_Accounts.f l0 = some (r1, r2)) :
    Calls Try.prog 20 #[.slice A0 l0.length c0] w fun e w' => ∃ v0_ : Value, e = .returned (.tuple #[v0_, .int .i64 r2]) ∧ Kd.R Kd.string 9 w' w.heap.size (fun _ => True) v0_ r1 ∧ Below w.heap.size w w' := by
  unfold ledger_Accounts.f at h
  by_cases hs0 : l0.all smallE = true
  · rw [if_pos hs0] at h
    have hr := Option.some.inj h
    have hu24 := Try.underlying24
    have HR0 := Aside0.mk hr0
    have HC0 := Aside0.mk hc0
    have HB := Aside0.mk (Below.refl w.heap.size w)
    have HF1 : Aside0 (ledger_Valid.f l0 = some (validL l0)) := ⟨by rw [ledger_Valid.f, if_pos hs0]⟩
    clear hr0 hc0 h hs0
    by_cases hv : validL l0 = true
    · rw [hv] at HF1
      rw [if_pos hv] at hr
      simp only [Prod.mk.injEq] at hr
      obtain ⟨rfl, rfl⟩ := hr
      have hlen := validL_len hv
      have HV := Aside0.mk (validL_all hv)
      clear hv
      have hmm := @run_makeMap Try.prog
      go_enter Try.func20, Try.ntmps20
      go_wp2_with (first
        | (go_at_call 15; (with_reducible refine (ledger_Valid.calls A0 c0 l0 true _ ?s1 HC0.out HF1.out).mono ?_); (case s1 => exact HR0.out); rintro e w1 ⟨rfl, hb⟩; have HX1 := Aside0.mk hb; clear hb))
      have HM0 := Aside0.mk (MapAt.made w1 Try.prog 9)
      have HB0 := Aside0.mk (below_alloc HX1.out (.map #[] 0))
      have hBw : w.heap.size ≤ w1.heap.size := HX1.out.size
      clear HX1 hmm
      generalize hB : w1.heap.size = B at *
      have HBB := Aside0.mk hB
      clear hB
      go_loopg [13] l0.length (fun gk v13 w' => ∃ i : Nat, v13 = .int .i64 i ∧ Aside0 (i ≤ l0.length ∧ gk = l0.length - i) ∧
        Aside0 (MapAt w' Try.prog 9 B (strF Value.bool (memF (namesL (l0.take i)))) (namesL (l0.take i)).length) ∧ Aside0 (Below w.heap.size w w'))
      case atStart => exact ⟨0, rfl, ⟨Nat.zero_le _, rfl⟩, ⟨by rw [List.take_zero]; exact (MapAt.congr HM0.out (fun x => by cases x <;> simp [strF, namesL, namesOf, putNs, memF]))⟩, HB0⟩
      case round =>
        obtain ⟨i, rfl, HI, HM, HB⟩ := hrel
        have hi := HI.out.1
        by_cases hlt : i < l0.length
        · obtain ⟨ad, e, x0, x1, x2, x3, x4, x5⟩ := at_T24 HR0.out (i : Int) (by omega) (by omega)
          cases e
          simp only [Int.toNat_natCast] at x0 x1 x2 x3 x4 x5
          replace x0 := (HB.out.cell (World.block_lt_of_cell? w _ x0)).trans x0
          replace x1 := (HB.out.cell (World.block_lt_of_cell? w _ x1)).trans x1
          replace x2 := (HB.out.cell (World.block_lt_of_cell? w _ x2)).trans x2
          replace x3 := (HB.out.cell (World.block_lt_of_cell? w _ x3)).trans x3
          replace x4 := (HB.out.cell (World.block_lt_of_cell? w _ x4)).trans x4
          replace x5 := (HB.out.cell (World.block_lt_of_cell? w _ x5)).trans x5
          have HT := Aside0.mk (take_snoc hlt)
          have HSz := Aside0.mk (validE_sizes (HV.out _ (show rd_T24 l0 (i : Int) ∈ l0 by rw [rd_get hlt]; exact List.getElem_mem hlt)))
          generalize hx : rd_T24 l0 (i : Int) = x at *
          clear hx
          go_wp2
          have hBlt := HM.out.lt
          have hg0 := blk_new wr (.cells #[.int .i64 x.f0, .int .i64 x.f1, .int .i64 x.f2, .int .i64 x.f3, .string x.f4, .string x.f5] 24)
          have HBx := Aside0.mk (below_alloc HB.out (.cells #[.int .i64 x.f0, .int .i64 x.f1, .int .i64 x.f2, .int .i64 x.f3, .string x.f4, .string x.f5] 24))
          have HMx := Aside0.mk (HM.out.alloc (.cells #[.int .i64 x.f0, .int .i64 x.f1, .int .i64 x.f2, .int .i64 x.f3, .string x.f4, .string x.f5] 24))
          generalize (wr.alloc (.cells #[.int .i64 x.f0, .int .i64 x.f1, .int .i64 x.f2, .int .i64 x.f3, .string x.f4, .string x.f5] 24)) = wx at *
          generalize hgg : wr.heap.size = g at *
          have hglt : g < wx.heap.size := (Array.getElem?_eq_some_iff.1 hg0).1
          have c4' : wx.cell? ⟨g, 4, none⟩ = some (.string x.f4) := (blk_cell hg0 4).trans rfl
          have c5' : wx.cell? ⟨g, 5, none⟩ = some (.string x.f5) := (blk_cell hg0 5).trans rfl
          clear hg0 hgg x0 x1 x2 x3 x4 x5 HM HB
          have hris := Aside0.mk (ris_namesL (l0.take i))
          have HNT : Aside0 (namesL (l0.take (i + 1)) = putN (putN (namesL (l0.take i)) x.f4) x.f5) := ⟨by rw [HT.out, namesL_snoc]⟩
          clear HT
          generalize namesL (l0.take i) = ns at *
          obtain ⟨w2, hr2, hm2, hg2, _⟩ := HMx.out.drew.store keyStr Try.underlying47 (keyOf_str_mk HSz.out.1) (.bool true)
          obtain ⟨w3, hr3, hm3, hg3, _⟩ := hm2.store keyStr Try.underlying47 (keyOf_str_mk HSz.out.2) (.bool true)
          rw [strF_some, memF_len hris.out] at hm2
          rw [strF_put, memF_put] at hm2
          have hne : some g ≠ some B := by intro e; injection e with e; omega
          have d4 : w2.cell? ⟨g, 4, none⟩ = some (.string x.f4) := (hg2.cell_far ⟨g, 4, none⟩ hglt hne).trans c4'
          have d5 : w2.cell? ⟨g, 5, none⟩ = some (.string x.f5) := (hg2.cell_far ⟨g, 5, none⟩ hglt hne).trans c5'
          have hglt2 : g < w2.heap.size := Nat.lt_of_lt_of_le hglt hg2.size
          have e4 : w3.cell? ⟨g, 4, none⟩ = some (.string x.f4) := (hg3.cell_far ⟨g, 4, none⟩ hglt2 hne).trans d4
          have e5 : w3.cell? ⟨g, 5, none⟩ = some (.string x.f5) := (hg3.cell_far ⟨g, 5, none⟩ hglt2 hne).trans d5
          have HM3 : Aside0 (MapAt w3 Try.prog 9 B (strF Value.bool (memF (namesL (l0.take (i + 1))))) (namesL (l0.take (i + 1))).length) := ⟨by
            rw [strF_put, memF_put, strF_put, memF_put, strF_some, strF_some, memF_len hris.out, memF_len (ris_putN _ _ hris.out)] at hm3
            rw [HNT.out]; exact hm3⟩
          have HB3 : Aside0 (Below w.heap.size w w3) := ⟨((below_drew HBx.out).grown hg2 (by simp; omega) (by rintro k h; cases h; exact hBw)).grown hg3 (by have := hg2.size; simp at this; omega) (by rintro k h; cases h; exact hBw)⟩
          clear hm2 hm3 hg2 hg3
          go_region_held3 (fun w' => w'.cell? ⟨g, 4, none⟩ = some (.string x.f4) ∧ w'.cell? ⟨g, 5, none⟩ = some (.string x.f5)) (first | go_keep | exact ⟨d4, d5⟩ | exact ⟨e4, e5⟩) (skip)
          all_goals go_wp2
          all_goals go_roundg (l0.length - (i + 1))
          case measure => have := HI.out; omega
          case rel => exact ⟨i + 1, by go_num, ⟨by omega, rfl⟩, HM3, HB3⟩
        · obtain rfl : i = l0.length := by omega
          rw [List.take_length] at HM
          have hN := len_namesL l0
          have hcK := fun (mb : Option Nat) (W : World) => (callsIn_wide (n := 5)).1 (Try.maps_Keys_40 mb W)
          obtain ⟨D, hown, hsz, hnd, hmem⟩ := HM.out.keysStr (by simp only [maxLen]; omega) Try.underlying9
          have hcS := (callsIn_wide (n := 5)).1 (Try.slices_Sorted_keys_39_40 B (namesL l0).length D _ wr hown (by rw [hsz]; simp only [maxLen]; omega) (by rw [hsz]; omega))
          have HS := Aside0.mk hcS
          have HK := Aside0.mk hcK
          have HMm := Aside0.mk hmem
          have HND := Aside0.mk hnd
          clear hcS hcK hmem hnd hown hsz
          go_wp2_with (first
            | (go_at_call 40; (with_reducible refine (HK.out _ _).mono ?_); rintro e w5 ⟨rfl, rfl⟩)
            | (go_at_call 39; (with_reducible refine HS.out.mono ?_); rintro e w6 ⟨v, ss, rfl, hp, hrow, hnil, hb⟩))
          go_ret2
          refine ⟨_, rfl, Kd.R_lower (names_row HND.out (ris_namesL l0) HMm.out hp hrow) ?_, ?_⟩
          · have := HB.out.size; simp; omega
          · exact below_step (below_alloc HB.out _) hb
    · rw [show validL l0 = false by simpa using hv] at HF1
      rw [if_neg hv] at hr
      simp only [Prod.mk.injEq] at hr
      obtain ⟨rfl, rfl⟩ := hr
      clear hv
      go_enter Try.func20, Try.ntmps20
      go_wp2_with (first
        | (go_at_call 15; (with_reducible refine (ledger_Valid.calls A0 c0 l0 false _ ?s1 HC0.out HF1.out).mono ?_); (case s1 => exact HR0.out); rintro e w1 ⟨rfl, hb⟩; have HX1 := Aside0.mk hb; clear hb))
      go_ret2
      exact ⟨_, rfl, Kd.R_nil _ _ _ _ _, HX1.out⟩
  · rw [if_neg hs0] at h; cases h
end Go.Proofs.Ytnheelncgpgkiaa.P
