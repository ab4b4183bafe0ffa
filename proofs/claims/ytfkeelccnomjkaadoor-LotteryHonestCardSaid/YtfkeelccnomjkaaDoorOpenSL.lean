/- What secrets, shares, pledges, players and lists of them read as, within the types' bounds; the table of powers of ten as a row lists it. -/
import Derived.Test.YtfkeelccnomjkaaDoorOpenK
import Derived.Test.YtfkeelccnomjkaaDoorGSum
import Derived.Test.YtfkeelccnomjkaaDoorCards
import Derived.Deep.DeepHandedRow
import Derived.Lib.LaidTab
import Derived.ShutString
import Derived.ChangeOld
namespace Go.Proofs.YtfkeelccnomjkaaDoor.P
open Go.RowKit Go.Proofs.YtfkeelccnomjkaaDoorW.PrintWords Go.Proofs.YtfkeelccnomjkaaDoor.M
set_option linter.unusedVariables false
def wfS47 (x : S47) : Prop := (Lit.int .i64 x.f0).wf = true ∧ (Lit.int .i64 x.f1).wf = true
theorem opens_T47 : Opens Tryd.prog 47 k47 wfS47 :=
  opens_struct (stop := 2) Tryd.underlying47 (by kernel_rfl) (opensF_cons (opens_int Tryd.underlying3) rfl (by kernel_rfl) (opensF_one (opens_int Tryd.underlying3) rfl (by kernel_rfl)))
    (fun x : S47 => (x.f0, x.f1)) (fun y => ⟨y.1, y.2⟩) (fun _ => rfl)
theorem opens_T25 : Opens Tryd.prog 25 (Kd.slice 47 k47) (fun l => l.length ≤ maxLen ∧ ∀ x ∈ l, wfS47 x) := opens_slice Tryd.underlying25 opens_T47 (by kernel_rfl)
def wfS31 (x : S31) : Prop := (Lit.int .i64 x.f0).wf = true ∧ (Lit.int .u64 x.f1).wf = true ∧ x.f2.length ≤ maxLen ∧ ∀ s ∈ x.f2, wfS47 s
theorem opens_T31 : Opens Tryd.prog 31 k31 wfS31 :=
  opens_struct (stop := 3) Tryd.underlying31 (by kernel_rfl) (opensF_cons (opens_int Tryd.underlying3) rfl (by kernel_rfl) (opensF_cons (opens_int Tryd.underlying29) rfl (by kernel_rfl) (opensF_one (opens_T25) rfl (by kernel_rfl))))
    (fun x : S31 => (x.f0, x.f1, x.f2)) (fun y => ⟨y.1, y.2.1, y.2.2⟩) (fun _ => rfl)
theorem opens_T26 : Opens Tryd.prog 26 (Kd.slice 31 k31) (fun l => l.length ≤ maxLen ∧ ∀ x ∈ l, wfS31 x) := opens_slice Tryd.underlying26 opens_T31 (by kernel_rfl)
def wfS23 (x : S23) : Prop := (Lit.int .i64 x.f0).wf = true ∧ (Lit.int .i64 x.f1).wf = true ∧ (Lit.int .i64 x.f2).wf = true
theorem opens_T23 : Opens Tryd.prog 23 k23 wfS23 :=
  opens_struct (stop := 3) Tryd.underlying23 (by kernel_rfl) (opensF_cons (opens_int Tryd.underlying3) rfl (by kernel_rfl) (opensF_cons (opens_int Tryd.underlying3) rfl (by kernel_rfl) (opensF_one (opens_int Tryd.underlying3) rfl (by kernel_rfl))))
    (fun x : S23 => (x.f0, x.f1, x.f2)) (fun y => ⟨y.1, y.2.1, y.2.2⟩) (fun _ => rfl)
theorem opens_T27 : Opens Tryd.prog 27 (Kd.slice 23 k23) (fun l => l.length ≤ maxLen ∧ ∀ x ∈ l, wfS23 x) := opens_slice Tryd.underlying27 opens_T23 (by kernel_rfl)
theorem opens_T24 : Opens Tryd.prog 24 (Kd.slice 3 (Kd.int .i64)) (fun l => l.length ≤ maxLen ∧ ∀ x ∈ l, (Lit.int .i64 x).wf = true) := opens_slice Tryd.underlying24 (opens_int Tryd.underlying3) (by kernel_rfl)
theorem opens_T56 : Opens Tryd.prog 56 (Kd.slice 55 (Kd.int .u32)) (fun l => l.length ≤ maxLen ∧ ∀ x ∈ l, (Lit.int .u32 x).wf = true) := opens_slice Tryd.underlying56 (opens_int Tryd.underlying55) (by kernel_rfl)
def wfS58 (x : S58) : Prop := (Lit.int .u32 x.f0).wf = true ∧ (Lit.int .u32 x.f1).wf = true ∧ (x.f2.length ≤ maxLen ∧ ∀ y ∈ x.f2, (Lit.int .u32 y).wf = true) ∧ True ∧ (Lit.int .i64 x.f4).wf = true ∧ (Lit.int .i64 x.f5).wf = true ∧ (Lit.int .i64 x.f6).wf = true
theorem opens_T58 : Opens Tryd.prog 58 k58 wfS58 :=
  opens_struct (stop := 7) Tryd.underlying58 (by kernel_rfl) (opensF_cons (opens_int Tryd.underlying55) rfl (by kernel_rfl) (opensF_cons (opens_int Tryd.underlying55) rfl (by kernel_rfl) (opensF_cons (opens_T56) rfl (by kernel_rfl) (opensF_cons (opens_bool Tryd.underlying4) rfl (by kernel_rfl) (opensF_cons (opens_int Tryd.underlying3) rfl (by kernel_rfl) (opensF_cons (opens_int Tryd.underlying3) rfl (by kernel_rfl) (opensF_one (opens_int Tryd.underlying3) rfl (by kernel_rfl))))))))
    (fun x : S58 => (x.f0, x.f1, x.f2, x.f3, x.f4, x.f5, x.f6)) (fun y => ⟨y.1, y.2.1, y.2.2.1, y.2.2.2.1, y.2.2.2.2.1, y.2.2.2.2.2.1, y.2.2.2.2.2.2⟩) (fun _ => rfl)
theorem opens_T52 : Opens Tryd.prog 52 (Kd.slice 58 k58) (fun l => l.length ≤ maxLen ∧ ∀ x ∈ l, wfS58 x) := opens_slice Tryd.underlying52 opens_T58 (by kernel_rfl)
theorem keep_last {P : Program} {W : World} {a b c : String × DataW Unit} (h : laidMet P [a, b, c] W) : laidMet P [c] W := by
  obtain ⟨ps, ⟨g, t, cs, fuel, p, q, _, _, _, _, ⟨g2, t2, cs2, fuel2, p2, q2, _, _, _, _, h3, e2⟩, e1⟩, hn, hc⟩ := h
  subst e2
  subst e1
  refine ⟨q2, h3, ?_, fun b off hm => hc b off (List.mem_append_right _ (List.mem_append_right _ hm))⟩
  exact (List.nodup_append.1 (List.nodup_append.1 hn).2.1).2.1
theorem gTab : Tryd.prog.globalNamed "internal/strconv.uint64pow10" = some 0 := by kernel_rfl
theorem gTabType : (Tryd.prog.globals[0]?).map (·.type) = some 127 := by kernel_rfl
theorem cellsTab : Tryd.prog.cellsOf 127 = 20 := by kernel_rfl
theorem cellsU64 : Tryd.prog.cellsOf 29 = 1 := by kernel_rfl
/-- What a row's list gives: the table holds the powers of ten. -/
theorem gl_of {W : World} (h : laidMetH Tryd.prog [("math/bits.deBruijn32tab", Rows.laid_math_bits_deBruijn32tab), ("math/bits.deBruijn64tab", Rows.laid_math_bits_deBruijn64tab), ("internal/strconv.uint64pow10", Rows.laid_internal_strconv_uint64pow10)] W) : Gl W := by
  have h1 : laidMet Tryd.prog [("math/bits.deBruijn32tab", Rows.laid_math_bits_deBruijn32tab), ("math/bits.deBruijn64tab", Rows.laid_math_bits_deBruijn64tab), ("internal/strconv.uint64pow10", Rows.laid_internal_strconv_uint64pow10)] W := h
  have e : (Rows.laid_internal_strconv_uint64pow10 : DataW Unit) = Lib.tabData .u64 Lib.pow10Tab := by rfl
  have h2 := keep_last h1
  rw [e] at h2
  exact Lib.tabIs_of_head (rest := []) gTab gTabType Tryd.underlying127 Tryd.underlying29 cellsU64 cellsTab h2
/-- A world for the witness: the settled one, the variables holding what their initialisers lay. -/
def putTab (cs : Array Value) : Obj → Obj
  | .cells _ t frozen => .cells cs t frozen
  | o => o
noncomputable def laidWorld (os : Os) : World :=
  { World.holding Tryd.prog os ⟨#[], #[], []⟩ with heap := Array.modify (Array.modify (Array.modify (World.holding Tryd.prog os ⟨#[], #[], []⟩).heap 0 (putTab #[.int .u64 1, .int .u64 10, .int .u64 100, .int .u64 1000, .int .u64 10000, .int .u64 100000, .int .u64 1000000, .int .u64 10000000, .int .u64 100000000, .int .u64 1000000000, .int .u64 10000000000, .int .u64 100000000000, .int .u64 1000000000000, .int .u64 10000000000000, .int .u64 100000000000000, .int .u64 1000000000000000, .int .u64 10000000000000000, .int .u64 100000000000000000, .int .u64 1000000000000000000, .int .u64 10000000000000000000])) 1 (putTab #[.int .u8 0, .int .u8 1, .int .u8 28, .int .u8 2, .int .u8 29, .int .u8 14, .int .u8 24, .int .u8 3, .int .u8 30, .int .u8 22, .int .u8 20, .int .u8 15, .int .u8 25, .int .u8 17, .int .u8 4, .int .u8 8, .int .u8 31, .int .u8 27, .int .u8 13, .int .u8 23, .int .u8 21, .int .u8 19, .int .u8 16, .int .u8 7, .int .u8 26, .int .u8 12, .int .u8 18, .int .u8 6, .int .u8 11, .int .u8 5, .int .u8 10, .int .u8 9])) 2 (putTab #[.int .u8 0, .int .u8 1, .int .u8 56, .int .u8 2, .int .u8 57, .int .u8 49, .int .u8 28, .int .u8 3, .int .u8 61, .int .u8 58, .int .u8 42, .int .u8 50, .int .u8 38, .int .u8 29, .int .u8 17, .int .u8 4, .int .u8 62, .int .u8 47, .int .u8 59, .int .u8 36, .int .u8 45, .int .u8 43, .int .u8 51, .int .u8 22, .int .u8 53, .int .u8 39, .int .u8 33, .int .u8 30, .int .u8 24, .int .u8 18, .int .u8 12, .int .u8 5, .int .u8 63, .int .u8 55, .int .u8 48, .int .u8 27, .int .u8 60, .int .u8 41, .int .u8 37, .int .u8 16, .int .u8 46, .int .u8 35, .int .u8 44, .int .u8 21, .int .u8 52, .int .u8 32, .int .u8 23, .int .u8 11, .int .u8 54, .int .u8 26, .int .u8 40, .int .u8 15, .int .u8 34, .int .u8 20, .int .u8 31, .int .u8 10, .int .u8 25, .int .u8 14, .int .u8 19, .int .u8 9, .int .u8 13, .int .u8 8, .int .u8 7, .int .u8 6]) }
theorem wf_i64_bd {a : Int} (h : (Lit.int .i64 a).wf = true) : okI a := by
  simp only [Lit.wf, Bool.and_eq_true, decide_eq_true_eq] at h
  exact ⟨h.1, h.2⟩
theorem wf_u32_bd {a : Int} (h : (Lit.int .u32 a).wf = true) : 0 ≤ a ∧ a ≤ 4294967295 := by
  simp only [Lit.wf, Bool.and_eq_true, decide_eq_true_eq] at h
  exact ⟨h.1, h.2⟩
end Go.Proofs.YtfkeelccnomjkaaDoor.P
