/- The contract of lottery.isResidue: are all numbers residues? -/
import Derived.Test.YtfkeelccnomjkaaDoorGField
namespace Go.Proofs.YtfkeelccnomjkaaDoor.P
open Go.RowKit Go.Proofs.YtfkeelccnomjkaaDoorW.PrintWords Go.Proofs.YtfkeelccnomjkaaDoorW.PrintLast Go.Proofs.YtfkeelccnomjkaaDoorW.PrintMore Go.Proofs.YtfkeelccnomjkaaDoor.M
set_option linter.unusedVariables false
set_option linter.unusedSimpArgs false
theorem isRes1_calls (n : Int) (b : Bool) (hb : isR n = b) (W : World) : Calls Tryd.prog 50 #[.int .i64 n] W fun e w' => e = .returned (.bool !b) ∧ Drawn0 W w' := by
  have HB : inB n 0 1073741788 = b := hb
  clear hb
  go_enter Tryd.func50, Tryd.ntmps50
  go_wp2_with (go_at_call 29; (with_reducible refine (between_calls n 0 1073741788 _ HB _).mono ?_); rintro e w1 ⟨rfl, ⟨nd, rfl⟩⟩)
  go_ret
  exact ⟨rfl, ⟨nd, rfl⟩⟩
def IdxPost (l : List Int) (w : World) (e : Ending) (w' : World) : Prop := ∃ i : Int, e = .returned (.int .i64 i) ∧ decide (0 ≤ i) = !l.all isR ∧ Drawn0 w w'
theorem all_int_of {l : List Int} {p : Int → Bool} (h : ∀ j : Nat, j < l.length → p (rd l (j : Int)) = true) : l.all p = true := by
  rw [List.all_eq_true]
  intro x hx
  obtain ⟨j, hj, rfl⟩ := List.getElem_of_mem hx
  have e : rd l (j : Int) = l[j] := by unfold rd; rw [Int.toNat_natCast, List.getD_eq_getElem?_getD, List.getElem?_eq_getElem hj]; rfl
  rw [← e]; exact h j hj
theorem all_int_not {l : List Int} {p : Int → Bool} {j : Nat} (hj : j < l.length) (h : p (rd l (j : Int)) = false) : l.all p = false := by
  rw [List.all_eq_false]
  have e : rd l (j : Int) = l[j] := by unfold rd; rw [Int.toNat_natCast, List.getD_eq_getElem?_getD, List.getElem?_eq_getElem hj]; rfl
  exact ⟨l[j], List.getElem_mem hj, by rw [← e, h]; decide⟩
set_option maxHeartbeats 1600000 in
theorem indexRes_calls (A : Option Addr) (c : Nat) (l : List Int) (w : World) (hr : Kd.C (Kd.int .i64) w A l.length l) (hc : l.length ≤ c) :
    Calls Tryd.prog 60 #[.slice A l.length c, .func (.func 50) #[] #[]] w (IdxPost l w) := by
  have HR := Aside0.mk hr
  have hm := hr.2.1
  clear hr
  go_enter Tryd.func60, Tryd.ntmps60
  go_wp2
  go_loopg [5, 8] l.length (fun gk v5 v8 w' => ∃ i : Nat, v8 = .int .i64 i ∧ Aside0 (i ≤ l.length ∧ gk = l.length - i) ∧ Aside0 (∀ j : Nat, j < i → isR (rd l (j : Int)) = true) ∧ Aside0 (Drawn0 w w'))
  case atStart => exact ⟨0, rfl, ⟨Nat.zero_le _, rfl⟩, ⟨fun j hj => absurd hj (Nat.not_lt_zero j)⟩, ⟨Drawn0.refl _⟩⟩
  case round =>
    obtain ⟨i, rfl, HI, HD, HK⟩ := hrel
    have hi := HI.out.1
    by_cases hlt : i < l.length
    · obtain ⟨ad, e, x0⟩ := Kd.at_int HR.out (i : Int) (by omega) (by omega)
      cases e
      simp only [Int.toNat_natCast] at x0
      replace x0 := (HK.out.below.cell (World.block_lt_of_cell? w _ x0)).trans x0
      have hw := wrap_succ hlt hm
      cases hb : isR (rd l (i : Int)) with
      | true =>
        have HD' : Aside0 (∀ j : Nat, j < i + 1 → isR (rd l (j : Int)) = true) := ⟨fun j hj => by
          rcases Nat.lt_or_ge j i with h | h
          · exact HD.out j h
          · obtain rfl : j = i := by omega
            exact hb⟩
        have HBB := Aside0.mk hb
        clear hb hw
        generalize rd l (i : Int) = x at *
        go_wp2_with (go_at_call 50; (with_reducible refine (isRes1_calls x true HBB.out _).mono ?_); rintro e w1 ⟨rfl, hd⟩; have HK1 := Aside0.mk hd; clear hd)
        go_roundg (l.length - (i + 1))
        case measure => have := HI.out; omega
        case rel => exact ⟨i + 1, by go_num, ⟨by omega, rfl⟩, HD', ⟨by obtain ⟨⟨a, rfl⟩⟩ := HK.out; exact ⟨by obtain ⟨⟨b, rfl⟩⟩ := HK1.out; exact ⟨_, World.drewN_drewN ..⟩⟩⟩⟩
      | false =>
        have HA : Aside0 (l.all isR = false) := ⟨all_int_not hlt hb⟩
        have HBB := Aside0.mk hb
        clear hb hw
        generalize rd l (i : Int) = x at *
        go_wp2_with (go_at_call 50; (with_reducible refine (isRes1_calls x false HBB.out _).mono ?_); rintro e w1 ⟨rfl, hd⟩; have HK1 := Aside0.mk hd; clear hd)
        go_ret
        exact ⟨i, rfl, by rw [HA.out]; exact decide_eq_true (by omega), by obtain ⟨⟨a, rfl⟩⟩ := HK.out; exact ⟨by obtain ⟨⟨b, rfl⟩⟩ := HK1.out; exact ⟨_, World.drewN_drewN ..⟩⟩⟩
    · obtain rfl : i = l.length := by omega
      have HA : Aside0 (l.all isR = true) := ⟨all_int_of HD.out⟩
      go_wp2
      go_ret
      exact ⟨-1, rfl, by rw [HA.out]; rfl, HK.out⟩
def lottery_isResidue.f (l : List Int) : Option Bool := some (l.all isR)
theorem containsRes_calls (A : Option Addr) (c : Nat) (l : List Int) (b : Bool) (hb : l.all isR = b) (w : World) (hr : Kd.C (Kd.int .i64) w A l.length l) (hc : l.length ≤ c) :
    Calls Tryd.prog 49 #[.slice A l.length c, .func (.func 50) #[] #[]] w fun e w' => e = .returned (.bool !b) ∧ Drawn0 w w' := by
  have HR := Aside0.mk hr
  have HB := Aside0.mk hb
  clear hr hb
  go_enter Tryd.func49, Tryd.ntmps49
  go_wp2_with (go_at_call 60; (with_reducible refine (indexRes_calls A c l _ HR.out hc).mono ?_); rintro e w1 ⟨i, rfl, hi, hd⟩; rw [HB.out] at hi; have HD := Aside0.mk hd; clear hd)
  go_ret
  exact ⟨rfl, HD.out⟩
theorem lottery_isResidue.calls (A : Option Addr) (c : Nat) (l : List Int) (r : Bool) (w : World) (hr : Kd.C (Kd.int .i64) w A l.length l) (hc : l.length ≤ c) (h : lottery_isResidue.f l = some r) :
    Calls Tryd.prog 30 #[.slice A l.length c] w fun e w' => e = .returned (.bool r) ∧ Below w.heap.size w w' := by
  have HR := Aside0.mk hr
  have HB : Aside0 (l.all isR = r) := ⟨Option.some.inj h⟩
  clear hr h
  go_enter Tryd.func30, Tryd.ntmps30
  go_wp2_with (go_at_call 49; (with_reducible refine (containsRes_calls A c l r HB.out _ HR.out hc).mono ?_); rintro e w1 ⟨rfl, hd⟩; have HD := Aside0.mk hd; clear hd)
  go_ret
  exact ⟨rfl, HD.out.below⟩
theorem C_ints_blk {W : World} {g : Nat} {t : TypeId} (xs : List Int) (h : W.heap[g]? = some (.cells (nums .i64 xs).toArray t (0, 0))) (hm : xs.length ≤ 9223372036854775807) : Kd.C (Kd.int .i64) W (some ⟨g, 0, none⟩) xs.length xs :=
  Kd.C_of_reads (enc := Value.int .i64) (d := 0) (h1 := fun _ => rfl) ⟨rfl, hm, fun hn => ⟨_, rfl, fun j hj => by
    rw [add_plain, blk_cell h]
    simp [nums, hj]⟩⟩
theorem C_one {W : World} {g : Nat} {t : TypeId} (x : Int) (h : W.heap[g]? = some (.cells #[.int .i64 x] t (0, 0))) : Kd.C (Kd.int .i64) W (some ⟨g, 0, none⟩) [x].length [x] := C_ints_blk [x] h (show 1 ≤ 9223372036854775807 by decide)
theorem C_two {W : World} {g : Nat} {t : TypeId} (x y : Int) (h : W.heap[g]? = some (.cells #[.int .i64 x, .int .i64 y] t (0, 0))) : Kd.C (Kd.int .i64) W (some ⟨g, 0, none⟩) [x, y].length [x, y] := C_ints_blk [x, y] h (show 2 ≤ 9223372036854775807 by decide)
theorem isRes_one (A : Option Addr) (x : Int) (b : Bool) (hb : isR x = b) (W : World) (hr : Kd.C (Kd.int .i64) W A [x].length [x]) :
    Calls Tryd.prog 30 #[.slice A 1 1] W fun e w' => e = .returned (.bool b) ∧ Below W.heap.size W w' :=
  lottery_isResidue.calls A 1 [x] b W hr (Nat.le_refl 1) (by unfold lottery_isResidue.f; simp [hb])
theorem isRes_two (A : Option Addr) (x y : Int) (b : Bool) (hb : (isR x && isR y) = b) (W : World) (hr : Kd.C (Kd.int .i64) W A [x, y].length [x, y]) :
    Calls Tryd.prog 30 #[.slice A 2 2] W fun e w' => e = .returned (.bool b) ∧ Below W.heap.size W w' :=
  lottery_isResidue.calls A 2 [x, y] b W hr (Nat.le_refl 2) (by unfold lottery_isResidue.f; simp only [List.all_cons, List.all_nil, Bool.and_true, hb])
end Go.Proofs.YtfkeelccnomjkaaDoor.P
