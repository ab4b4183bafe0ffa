/- The contracts of lottery.fold, by times and by plus; what the folds compute, modulo Q. -/
import Derived.Test.YtfkeelccnomjkaaDoorGBack
namespace Go.Proofs.YtfkeelccnomjkaaDoor.P
open Go.RowKit Go.Proofs.YtfkeelccnomjkaaDoorW.PrintWords Go.Proofs.YtfkeelccnomjkaaDoorW.PrintLast Go.Proofs.YtfkeelccnomjkaaDoorW.PrintMore Go.Proofs.YtfkeelccnomjkaaDoor.M Go.Proofs.YtfkeelccnomjkaaDoor.QF
set_option linter.unusedVariables false
set_option linter.unusedSimpArgs false
def mulF (l : List Int) (a : Int) : Int := l.foldl (fun x y => x * y % 1073741789) a
def addF (l : List Int) (a : Int) : Int := l.foldl (fun x y => (x + y) % 1073741789) a
theorem mulF_snoc (l : List Int) (x a : Int) : mulF (l ++ [x]) a = mulF l a * x % 1073741789 := by unfold mulF; rw [List.foldl_append]; rfl
theorem addF_snoc (l : List Int) (x a : Int) : addF (l ++ [x]) a = (addF l a + x) % 1073741789 := by unfold addF; rw [List.foldl_append]; rfl
theorem rs_mulF (l : List Int) {a : Int} (ha : rs a) : rs (mulF l a) := by
  unfold mulF
  induction l generalizing a with
  | nil => exact ha
  | cons x l ih => exact ih (rs_mod _)
theorem rs_addF (l : List Int) {a : Int} (ha : rs a) : rs (addF l a) := by
  unfold addF
  induction l generalizing a with
  | nil => exact ha
  | cons x l ih => exact ih (rs_mod _)
theorem mulF_cg (l : List Int) (a : Int) : Cg 1073741789 (mulF l a) (a * prodL l) := by
  unfold mulF
  induction l generalizing a with
  | nil => exact Cg.of_eq (Int.mul_one a).symm
  | cons x l ih =>
    refine (ih _).trans (((cgm (a * x)).mul (Cg.refl _ _)).trans (Cg.of_eq ?_))
    rw [Int.mul_assoc]; rfl
def sumI : List Int → Int
  | [] => 0
  | a :: l => a + sumI l
theorem addF_cg (l : List Int) (a : Int) : Cg 1073741789 (addF l a) (a + sumI l) := by
  unfold addF
  induction l generalizing a with
  | nil => exact Cg.of_eq (Int.add_zero a).symm
  | cons x l ih =>
    refine (ih _).trans (((cgm (a + x)).add (Cg.refl _ _)).trans (Cg.of_eq ?_))
    show a + x + sumI l = a + (x + sumI l)
    omega
theorem rd_take_succ {l : List Int} {i : Nat} (h : i < l.length) : l.take (i + 1) = l.take i ++ [rd l (i : Int)] := by
  have e : rd l (i : Int) = l[i] := by unfold rd; rw [Int.toNat_natCast, List.getD_eq_getElem?_getD, List.getElem?_eq_getElem h]; rfl
  rw [e, List.take_succ_eq_append_getElem h]
theorem rd_mem {l : List Int} {i : Nat} (h : i < l.length) : rd l (i : Int) ∈ l := by
  have e : rd l (i : Int) = l[i] := by unfold rd; rw [Int.toNat_natCast, List.getD_eq_getElem?_getD, List.getElem?_eq_getElem h]; rfl
  rw [e]; exact List.getElem_mem h
set_option maxHeartbeats 1600000 in
theorem foldTimes_calls (A : Option Addr) (c : Nat) (l : List Int) (a r : Int) (w : World) (hr : Kd.C (Kd.int .i64) w A l.length l) (hc : l.length ≤ c) (ha : rs a) (hl : ∀ x ∈ l, rs x) (he : mulF l a = r) :
    Calls Tryd.prog 54 #[.func (.func 45) #[] #[], .int .i64 a, .slice A l.length c] w fun e w' => e = .returned (.int .i64 r) ∧ Drawn0 w w' := by
  have HR := Aside0.mk hr
  have HE := Aside0.mk he
  have HA := Aside0.mk ha
  have HL := Aside0.mk hl
  have hm := hr.2.1
  clear hr he ha hl
  go_enter Tryd.func54, Tryd.ntmps54
  go_wp2
  go_loopg [1, 8, 11] l.length (fun gk v1 v8 v11 w' => ∃ i : Nat, v11 = .int .i64 i ∧ v1 = .int .i64 (mulF (l.take i) a) ∧ Aside0 (i ≤ l.length ∧ gk = l.length - i) ∧ Aside0 (Drawn0 w w'))
  case atStart => exact ⟨0, rfl, rfl, ⟨Nat.zero_le _, rfl⟩, ⟨Drawn0.refl _⟩⟩
  case round =>
    obtain ⟨i, rfl, rfl, HI, HK⟩ := hrel
    have hi := HI.out.1
    by_cases hlt : i < l.length
    · obtain ⟨ad, e, x0⟩ := Kd.at_int HR.out (i : Int) (by omega) (by omega)
      cases e
      simp only [Int.toNat_natCast] at x0
      replace x0 := (HK.out.below.cell (World.block_lt_of_cell? w _ x0)).trans x0
      have HX := Aside0.mk (HL.out _ (rd_mem hlt))
      have HM := Aside0.mk (rs_mulF (l.take i) HA.out)
      have HT : Aside0 (mulF (l.take (i + 1)) a = mulF (l.take i) a * rd l (i : Int) % 1073741789) := ⟨by rw [rd_take_succ hlt, mulF_snoc]⟩
      generalize rd l (i : Int) = x at *
      generalize mulF (l.take i) a = m at *
      go_wp2_with (go_at_call 45; (with_reducible refine (times_calls m x _ HM.out HX.out rfl _).mono ?_); rintro e w1 ⟨rfl, hd⟩; have HK1 := Aside0.mk hd; clear hd)
      go_roundg (l.length - (i + 1))
      case measure => have := HI.out; omega
      case rel => exact ⟨i + 1, by go_num, by rw [HT.out], ⟨by omega, rfl⟩, ⟨by obtain ⟨⟨a, rfl⟩⟩ := HK.out; exact ⟨by obtain ⟨⟨b, rfl⟩⟩ := HK1.out; exact ⟨_, World.drewN_drewN ..⟩⟩⟩⟩
    · obtain rfl : i = l.length := by omega
      have HT : Aside0 (mulF (l.take l.length) a = r) := ⟨by rw [List.take_length]; exact HE.out⟩
      go_wp2
      go_ret
      exact ⟨by rw [← HT.out]; rfl, HK.out⟩
set_option maxHeartbeats 1600000 in
theorem foldPlus_calls (A : Option Addr) (c : Nat) (l : List Int) (a r : Int) (w : World) (hr : Kd.C (Kd.int .i64) w A l.length l) (hc : l.length ≤ c) (ha : rs a) (hl : ∀ x ∈ l, rs x) (he : addF l a = r) :
    Calls Tryd.prog 54 #[.func (.func 40) #[] #[], .int .i64 a, .slice A l.length c] w fun e w' => e = .returned (.int .i64 r) ∧ Drawn0 w w' := by
  have HR := Aside0.mk hr
  have HE := Aside0.mk he
  have HA := Aside0.mk ha
  have HL := Aside0.mk hl
  have hm := hr.2.1
  clear hr he ha hl
  go_enter Tryd.func54, Tryd.ntmps54
  go_wp2
  go_loopg [1, 8, 11] l.length (fun gk v1 v8 v11 w' => ∃ i : Nat, v11 = .int .i64 i ∧ v1 = .int .i64 (addF (l.take i) a) ∧ Aside0 (i ≤ l.length ∧ gk = l.length - i) ∧ Aside0 (Drawn0 w w'))
  case atStart => exact ⟨0, rfl, rfl, ⟨Nat.zero_le _, rfl⟩, ⟨Drawn0.refl _⟩⟩
  case round =>
    obtain ⟨i, rfl, rfl, HI, HK⟩ := hrel
    have hi := HI.out.1
    by_cases hlt : i < l.length
    · obtain ⟨ad, e, x0⟩ := Kd.at_int HR.out (i : Int) (by omega) (by omega)
      cases e
      simp only [Int.toNat_natCast] at x0
      replace x0 := (HK.out.below.cell (World.block_lt_of_cell? w _ x0)).trans x0
      have HX := Aside0.mk (HL.out _ (rd_mem hlt))
      have HM := Aside0.mk (rs_addF (l.take i) HA.out)
      have HT : Aside0 (addF (l.take (i + 1)) a = (addF (l.take i) a + rd l (i : Int)) % 1073741789) := ⟨by rw [rd_take_succ hlt, addF_snoc]⟩
      generalize rd l (i : Int) = x at *
      generalize addF (l.take i) a = m at *
      go_wp2_with (go_at_call 40; (with_reducible refine (plus_calls m x _ HM.out HX.out rfl _).mono ?_); rintro e w1 ⟨rfl, hd⟩; have HK1 := Aside0.mk hd; clear hd)
      go_roundg (l.length - (i + 1))
      case measure => have := HI.out; omega
      case rel => exact ⟨i + 1, by go_num, by rw [HT.out], ⟨by omega, rfl⟩, ⟨by obtain ⟨⟨a, rfl⟩⟩ := HK.out; exact ⟨by obtain ⟨⟨b, rfl⟩⟩ := HK1.out; exact ⟨_, World.drewN_drewN ..⟩⟩⟩⟩
    · obtain rfl : i = l.length := by omega
      have HT : Aside0 (addF (l.take l.length) a = r) := ⟨by rw [List.take_length]; exact HE.out⟩
      go_wp2
      go_ret
      exact ⟨by rw [← HT.out]; rfl, HK.out⟩
instance (a : Int) : Decidable (rs a) := inferInstanceAs (Decidable (0 ≤ a ∧ a < 1073741789))
/-- fold, by times (45) or by plus, of residues. -/
def lottery_fold.f (m a : Int) (l : List Int) : Option Int := if rs a ∧ ∀ x ∈ l, rs x then (if m = 45 then some (mulF l a) else some (addF l a)) else none
theorem lottery_fold.times {a : Int} {l : List Int} (ha : rs a) (hl : ∀ x ∈ l, rs x) : lottery_fold.f 45 a l = some (mulF l a) := by unfold lottery_fold.f; rw [if_pos ⟨ha, hl⟩, if_pos rfl]
theorem lottery_fold.plus {a : Int} {l : List Int} (ha : rs a) (hl : ∀ x ∈ l, rs x) : lottery_fold.f 40 a l = some (addF l a) := by unfold lottery_fold.f; rw [if_pos ⟨ha, hl⟩, if_neg (by decide)]
theorem lottery_foldT.calls (a : Int) (A : Option Addr) (c : Nat) (l : List Int) (r : Int) (w : World) (hr : Kd.C (Kd.int .i64) w A l.length l) (hc : l.length ≤ c) (h : lottery_fold.f 45 a l = some r) :
    Calls Tryd.prog 54 #[.func (.func 45) #[] #[], .int .i64 a, .slice A l.length c] w fun e w' => e = .returned (.int .i64 r) ∧ Drawn0 w w' := by
  unfold lottery_fold.f at h
  split at h
  · rename_i hh
    rw [if_pos rfl] at h
    exact foldTimes_calls A c l a r w hr hc hh.1 hh.2 (Option.some.inj h)
  · cases h
theorem lottery_foldP.calls (a : Int) (A : Option Addr) (c : Nat) (l : List Int) (r : Int) (w : World) (hr : Kd.C (Kd.int .i64) w A l.length l) (hc : l.length ≤ c) (h : lottery_fold.f 40 a l = some r) :
    Calls Tryd.prog 54 #[.func (.func 40) #[] #[], .int .i64 a, .slice A l.length c] w fun e w' => e = .returned (.int .i64 r) ∧ Drawn0 w w' := by
  unfold lottery_fold.f at h
  split at h
  · rename_i hh
    rw [if_neg (by decide)] at h
    exact foldPlus_calls A c l a r w hr hc hh.1 hh.2 (Option.some.inj h)
  · cases h
end Go.Proofs.YtfkeelccnomjkaaDoor.P
