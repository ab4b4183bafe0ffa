/- The contract of made, as the laws use it. -/
import Derived.Test.YtknfkibnocfjiaaDoorMTruth
import Derived.Test.YtknfkibnocfjiaaDoorLawBase
namespace Go.Proofs.YtknfkibnocfjiaaDoor.P
open Go.RowKit Go.Proofs.YtknfkibnocfjiaaDoorW.PrintWords Go.Proofs.YtknfkibnocfjiaaDoorW.PrintLast Go.Proofs.YtknfkibnocfjiaaDoorW.PrintMore Go.Proofs.YtknfkibnocfjiaaDoor.M
set_option linter.unusedVariables false
set_option linter.unusedSimpArgs false
def MadeOk (x : S25) (st : Int) (sh sl : List Int) (rd : List Bool) (w : World) (e : Ending) (w' : World) : Prop :=
  ∃ (A5 : Option Addr) (k5 : Nat) (A6 : Option Addr) (k6 : Nat) (A7 : Option Addr) (k7 : Nat) (A8 : Option Addr) (k8 : Nat),
    e = .returned (.tuple #[.agg #[.int .i64 x.f0, .int .i64 x.f1, .int .i64 x.f2, .int .i64 x.f3, .int .i64 x.f4.f0, .int .i64 (x.f4.f0 + sh.length), .slice A5 sh.length k5, .slice A6 sh.length k6, .slice A7 (rowR (hM x sh.length) st sh rd (sh.length + 1)).length k7, .slice A8 (sh.length + 1) k8], .bool true]) ∧
    ((Kd.int .i64).C w' A5 sh.length ((List.range sh.length).map (sAt (hM x sh.length) sh)) ∧ (Kd.int .i64).C w' A6 sh.length ((List.range sh.length).map (cAt (hM x sh.length) sh sl)) ∧
      Kd.C k43 w' A7 (rowR (hM x sh.length) st sh rd (sh.length + 1)).length (rowR (hM x sh.length) st sh rd (sh.length + 1)) ∧ (rowR (hM x sh.length) st sh rd (sh.length + 1)).length ≤ k7 ∧
      Kd.bool.C w' A8 (sh.length + 1) ((List.range (sh.length + 1)).map (rAt (hM x sh.length) rd)) ∧ sh.length + 1 ≤ k8) ∧ Below w.heap.size w w'
theorem okMade_hist {x : S25} {st : Int} {n : Nat} (hs : 0 ≤ st ∧ st ≤ 65535) (h : okMade x n = true) : Hist (hM x n) st n := by
  unfold okMade at h
  simp only [Bool.and_eq_true, decide_eq_true_eq] at h
  exact ⟨h.2, rfl, hs, h.1.1.1, h.1.1.2⟩
theorem made_ok (x : S25) (st : Int) (A2 : Option Addr) (c2 : Nat) (sh : List Int) (A3 : Option Addr) (c3 : Nat) (sl : List Int) (A4 : Option Addr) (c4 : Nat) (rd : List Bool) (w : World)
    (hr2 : (Kd.int .u16).C w A2 sh.length sh) (hc2 : sh.length ≤ c2) (hr3 : (Kd.int .u8).C w A3 sl.length sl) (hc3 : sl.length ≤ c3) (hr4 : Kd.bool.C w A4 rd.length rd) (hc4 : rd.length ≤ c4)
    (hst : 0 ≤ st ∧ st ≤ 65535) (hsh : ∀ x ∈ sh, 0 ≤ x ∧ x ≤ 65535) (hsl : ∀ x ∈ sl, 0 ≤ x ∧ x ≤ 255) (hll : sl.length ≤ maxLen) (hlr : rd.length ≤ maxLen) (hok : okMade x sh.length = true) :
    Calls Tryd.prog 22 #[.agg #[.int .i64 x.f0, .int .i64 x.f1, .int .i64 x.f2, .int .i64 x.f3, .int .i64 x.f4.f0, .int .i64 x.f4.f1], .int .u16 st, .slice A2 sh.length c2, .slice A3 sl.length c3, .slice A4 rd.length c4] w (MadeOk x st sh sl rd w) := by
  have H := okMade_hist hst hok
  have hf : x.f4.f0 ≤ 36524 := by
    unfold okMade at hok
    simp only [Bool.and_eq_true, decide_eq_true_eq] at hok
    exact hok.1.2
  refine (made_yes (hM x sh.length) x.f4.f1 st A2 c2 sh A3 c3 sl A4 c4 rd w hr2 hc2 hr3 hc3 hr4 hc4 hst hsh hsl hll hlr H.n1 rfl H.v hf).mono ?_
  rintro e w' ⟨vS, vC, vR, vD, rfl, h1, h2, h3, h4, hb⟩
  obtain ⟨A5, k5, e5, _, g5⟩ := Kd.R_reads h1
  obtain ⟨A6, k6, e6, _, g6⟩ := Kd.R_reads h2
  obtain ⟨A7, k7, e7, l7, g7⟩ := Kd.R_reads h3
  obtain ⟨A8, k8, e8, l8, g8⟩ := Kd.R_reads h4
  rw [List.length_map, List.length_range] at e5 e6 e8 g5 g6 g8 l8
  subst e5; subst e6; subst e7; subst e8
  exact ⟨A5, k5, A6, k6, A7, k7, A8, k8, rfl, ⟨g5, g6, g7, l7, g8, l8⟩, hb⟩
theorem cAt_le {m : S25} (h : 1 ≤ m.f2 ∧ m.f2 ≤ 10000) (hd : 0 ≤ m.f3 ∧ m.f3 ≤ 100) (sh sl : List Int) (k : Nat) : 0 ≤ cAt m sh sl k ∧ cAt m sh sl k ≤ 10000000 := by
  have hs := sAt_bd h.1 sh k
  have hl := lohi hd hs.1 (show sAt m sh k ≤ 10000 by omega)
  unfold cAt
  split
  · have h1 := Int.emod_nonneg (sl.getD k 0) (show hiS m (sAt m sh k) - loS m (sAt m sh k) + 1 ≠ 0 by omega)
    have h2 := Int.emod_lt_of_pos (sl.getD k 0) (show 0 < hiS m (sAt m sh k) - loS m (sAt m sh k) + 1 by omega)
    omega
  · omega
theorem cI_bd {m : S25} (h : 1 ≤ m.f2 ∧ m.f2 ≤ 10000) (hd : 0 ≤ m.f3 ∧ m.f3 ≤ 100) (d : S23) (sh sl : List Int) : ∀ k : Nat, 0 ≤ cI m d sh sl k ∧ cI m d sh sl k ≤ 10000000 * k
  | 0 => by simp [cI]
  | k + 1 => by
    have h1 := cI_bd h hd d sh sl k
    have h2 := cAt_le h hd sh sl k
    unfold cI
    split <;> omega
end Go.Proofs.YtknfkibnocfjiaaDoor.P
