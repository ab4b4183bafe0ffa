/- The contract of the law's head: the examples come out as they should. -/
import Derived.Test.YtnheelncgpgkiaaGAccounts
import Derived.Test.YtnheelncgpgkiaaGBalance
import Derived.Test.YtnheelncgpgkiaaGReverse
import Derived.Test.YtnheelncgpgkiaaPR2
namespace Go.Proofs.Ytnheelncgpgkiaa.P
open Go.RowKit Go.Proofs.YtnheelncgpgkiaaW.PrintWords Go.Proofs.YtnheelncgpgkiaaW.PrintLast Go.Proofs.YtnheelncgpgkiaaW.PrintMore Go.Proofs.Ytnheelncgpgkiaa.M
set_option linter.unusedVariables false
set_option linter.unusedSimpArgs false

theorem C_str_blk {W : World} {b : Nat} {fr : Nat × Nat} (xs : List ByteArray) (h : W.heap[b]? = some (.cells (xs.map Value.string).toArray 9 fr)) (hl : xs.length ≤ 9223372036854775807) : Kd.C Kd.string W (some ⟨b, 0, none⟩) xs.length xs := by
  refine ⟨rfl, hl, fun _ => ⟨_, rfl, fun j p hj => ?_⟩⟩
  refine ⟨[.string p], rfl, rfl, fun i u hu => ?_⟩
  have hi : i = 0 := by
    have := (List.getElem?_eq_some_iff.1 hu).1
    simp at this; exact this
  subst hi
  obtain rfl : Value.string p = u := by simpa using hu
  show W.cell? _ = _
  rw [show (Addr.mk b 0 none).add (j * Kd.string.sz + 0) = ⟨b, j, none⟩ by rw [show j * Kd.string.sz + 0 = j from Nat.mul_one j, add_plain]]
  simp only [World.cell?, h]
  rw [List.getElem?_toArray, List.getElem?_map, hj]; rfl

def sRent : ByteArray := ⟨#[114, 101, 110, 116]⟩
def sCharges : ByteArray := ⟨#[99, 104, 97, 114, 103, 101, 115]⟩
def cohousinglaw33_head.f : Option Bool := some true

set_option maxHeartbeats 8000000 in
set_option maxRecDepth 100000 in
theorem cohousinglaw33_head.calls (r : Bool) (w : World) (h : cohousinglaw33_head.f = some r) :
    Calls Try.prog 11 #[] w fun e w' => e = .returned (.bool r) ∧ Below w.heap.size w w' := by
  obtain rfl : true = r := Option.some.inj h
  clear h
  have F1 : Aside0 (ledger_Post.f [] 1 3 5 500 ⟨#[114, 101, 110, 116]⟩ ⟨#[99, 104, 97, 114, 103, 101, 115]⟩ = some ([⟨1, 3, 5, 500, ⟨#[114, 101, 110, 116]⟩, ⟨#[99, 104, 97, 114, 103, 101, 115]⟩⟩], 0)) := ⟨by kernel_rfl⟩
  have F2 : Aside0 (ledger_Balance.f [⟨1, 3, 5, 500, ⟨#[114, 101, 110, 116]⟩, ⟨#[99, 104, 97, 114, 103, 101, 115]⟩⟩] ⟨#[114, 101, 110, 116]⟩ 3 5 = some (500, 0)) := ⟨by kernel_rfl⟩
  have F3 : Aside0 (ledger_Balance.f [⟨1, 3, 5, 500, ⟨#[114, 101, 110, 116]⟩, ⟨#[99, 104, 97, 114, 103, 101, 115]⟩⟩] ⟨#[99, 104, 97, 114, 103, 101, 115]⟩ 3 5 = some (-500, 0)) := ⟨by kernel_rfl⟩
  have F4 : Aside0 (ledger_Balance.f [⟨1, 3, 5, 500, ⟨#[114, 101, 110, 116]⟩, ⟨#[99, 104, 97, 114, 103, 101, 115]⟩⟩] ⟨#[114, 101, 110, 116]⟩ 3 4 = some (0, 0)) := ⟨by kernel_rfl⟩
  have F5 : Aside0 (ledger_Reverse.f [⟨1, 3, 5, 500, ⟨#[114, 101, 110, 116]⟩, ⟨#[99, 104, 97, 114, 103, 101, 115]⟩⟩] 1 2 10 10 = some ([⟨1, 3, 5, 500, ⟨#[114, 101, 110, 116]⟩, ⟨#[99, 104, 97, 114, 103, 101, 115]⟩⟩, ⟨2, 10, 10, 500, ⟨#[99, 104, 97, 114, 103, 101, 115]⟩, ⟨#[114, 101, 110, 116]⟩⟩], 0)) := ⟨by kernel_rfl⟩
  have F6 : Aside0 (ledger_Balance.f [⟨1, 3, 5, 500, ⟨#[114, 101, 110, 116]⟩, ⟨#[99, 104, 97, 114, 103, 101, 115]⟩⟩, ⟨2, 10, 10, 500, ⟨#[99, 104, 97, 114, 103, 101, 115]⟩, ⟨#[114, 101, 110, 116]⟩⟩] ⟨#[114, 101, 110, 116]⟩ 10 10 = some (0, 0)) := ⟨by kernel_rfl⟩
  have F7 : Aside0 (ledger_Accounts.f [⟨1, 3, 5, 500, ⟨#[114, 101, 110, 116]⟩, ⟨#[99, 104, 97, 114, 103, 101, 115]⟩⟩, ⟨2, 10, 10, 500, ⟨#[99, 104, 97, 114, 103, 101, 115]⟩, ⟨#[114, 101, 110, 116]⟩⟩] = some ([⟨#[99, 104, 97, 114, 103, 101, 115]⟩, ⟨#[114, 101, 110, 116]⟩], 0)) := ⟨by kernel_rfl⟩
  have F8 : Aside0 (ledger_Reverse.f [⟨1, 3, 5, 500, ⟨#[114, 101, 110, 116]⟩, ⟨#[99, 104, 97, 114, 103, 101, 115]⟩⟩] 2 3 10 10 = some ([], 4)) := ⟨by kernel_rfl⟩
  have F9 : Aside0 (ledger_Post.f [⟨1, 3, 5, 500, ⟨#[114, 101, 110, 116]⟩, ⟨#[99, 104, 97, 114, 103, 101, 115]⟩⟩] 1 0 0 1 ⟨#[97]⟩ ⟨#[98]⟩ = some ([], 5)) := ⟨by kernel_rfl⟩
  have F10 : Aside0 (cohousingref33_SameNames.f 5 [⟨#[99, 104, 97, 114, 103, 101, 115]⟩, ⟨#[114, 101, 110, 116]⟩] [⟨#[99, 104, 97, 114, 103, 101, 115]⟩, ⟨#[114, 101, 110, 116]⟩] = some true) := ⟨by kernel_rfl⟩
  have F11 : Aside0 (ledger_Valid.f [⟨1, 3, 5, 500, ⟨#[114, 101, 110, 116]⟩, ⟨#[99, 104, 97, 114, 103, 101, 115]⟩⟩, ⟨2, 10, 10, 500, ⟨#[99, 104, 97, 114, 103, 101, 115]⟩, ⟨#[114, 101, 110, 116]⟩⟩] = some true) := ⟨by kernel_rfl⟩
  have F12 : Aside0 (ledger_Valid.f [⟨1, 0, 0, 1, ⟨#[97]⟩, ⟨#[97]⟩⟩] = some false) := ⟨by kernel_rfl⟩
  have HB := Aside0.mk (Below.refl w.heap.size w)
  go_enter Try.func11, Try.ntmps11
  go_upto_region 10 with (first
    | (go_at_call 13; refine calls_of_args (args' := #[.slice none ([] : List S24).length 0, .agg #[.int .i64 1, .int .i64 3, .int .i64 5, .int .i64 500, .string ⟨#[114, 101, 110, 116]⟩, .string ⟨#[99, 104, 97, 114, 103, 101, 115]⟩]]) rfl ?_; (with_reducible refine (ledger_Post.calls none 0 [] 1 3 5 500 ⟨#[114, 101, 110, 116]⟩ ⟨#[99, 104, 97, 114, 103, 101, 115]⟩ _ 0 _ ?s1 (by decide) F1.out).mono ?_); (case s1 => exact Kd.C_nil _ _); rintro e w1 ⟨v1, rfl, hR, hb⟩; obtain ⟨A1, c1, rfl, hl1, hc1⟩ := Kd.R_reads hR; have HR1 := Aside0.mk hc1; have HL1 := Aside0.mk hl1; replace HB := Aside0.mk (below_step HB.out hb); clear hR hl1 hc1 hb)
    | (go_at_call 18; refine calls_of_args (args' := #[.slice A1 ([⟨1, 3, 5, 500, ⟨#[114, 101, 110, 116]⟩, ⟨#[99, 104, 97, 114, 103, 101, 115]⟩⟩] : List S24).length c1, .string ⟨#[114, 101, 110, 116]⟩, .int .i64 3, .int .i64 5]) rfl ?_; (with_reducible refine (ledger_Balance.calls A1 c1 [⟨1, 3, 5, 500, ⟨#[114, 101, 110, 116]⟩, ⟨#[99, 104, 97, 114, 103, 101, 115]⟩⟩] ⟨#[114, 101, 110, 116]⟩ 3 5 500 0 _ ?s1 HL1.out F2.out).mono ?_); (case s1 => exact HR1.out); rintro e w2 ⟨rfl, hb⟩; replace HB := Aside0.mk (below_step HB.out hb); replace HR1 := Aside0.mk (Kd.C_below HR1.out hb); clear hb)
    | (go_at_call 18; refine calls_of_args (args' := #[.slice A1 ([⟨1, 3, 5, 500, ⟨#[114, 101, 110, 116]⟩, ⟨#[99, 104, 97, 114, 103, 101, 115]⟩⟩] : List S24).length c1, .string ⟨#[99, 104, 97, 114, 103, 101, 115]⟩, .int .i64 3, .int .i64 5]) rfl ?_; (with_reducible refine (ledger_Balance.calls A1 c1 [⟨1, 3, 5, 500, ⟨#[114, 101, 110, 116]⟩, ⟨#[99, 104, 97, 114, 103, 101, 115]⟩⟩] ⟨#[99, 104, 97, 114, 103, 101, 115]⟩ 3 5 (-500) 0 _ ?s1 HL1.out F3.out).mono ?_); (case s1 => exact HR1.out); rintro e w3 ⟨rfl, hb⟩; replace HB := Aside0.mk (below_step HB.out hb); replace HR1 := Aside0.mk (Kd.C_below HR1.out hb); clear hb)
    | (go_at_call 18; refine calls_of_args (args' := #[.slice A1 ([⟨1, 3, 5, 500, ⟨#[114, 101, 110, 116]⟩, ⟨#[99, 104, 97, 114, 103, 101, 115]⟩⟩] : List S24).length c1, .string ⟨#[114, 101, 110, 116]⟩, .int .i64 3, .int .i64 4]) rfl ?_; (with_reducible refine (ledger_Balance.calls A1 c1 [⟨1, 3, 5, 500, ⟨#[114, 101, 110, 116]⟩, ⟨#[99, 104, 97, 114, 103, 101, 115]⟩⟩] ⟨#[114, 101, 110, 116]⟩ 3 4 0 0 _ ?s1 HL1.out F4.out).mono ?_); (case s1 => exact HR1.out); rintro e w4 ⟨rfl, hb⟩; replace HB := Aside0.mk (below_step HB.out hb); replace HR1 := Aside0.mk (Kd.C_below HR1.out hb); clear hb)
    | (go_at_call 23; refine calls_of_args (args' := #[.slice A1 ([⟨1, 3, 5, 500, ⟨#[114, 101, 110, 116]⟩, ⟨#[99, 104, 97, 114, 103, 101, 115]⟩⟩] : List S24).length c1, .int .i64 1, .int .i64 2, .int .i64 10, .int .i64 10]) rfl ?_; (with_reducible refine (ledger_Reverse.calls A1 c1 [⟨1, 3, 5, 500, ⟨#[114, 101, 110, 116]⟩, ⟨#[99, 104, 97, 114, 103, 101, 115]⟩⟩] 1 2 10 10 _ 0 _ ?s1 HL1.out F5.out).mono ?_); (case s1 => exact HR1.out); rintro e w5 ⟨v2, rfl, hR, hb⟩; obtain ⟨A2, c2, rfl, hl1, hc1⟩ := Kd.R_reads hR; have HR2 := Aside0.mk hc1; have HL2 := Aside0.mk hl1; replace HB := Aside0.mk (below_step HB.out hb); replace HR1 := Aside0.mk (Kd.C_below HR1.out hb); clear hR hl1 hc1 hb)
    | (go_at_call 18; refine calls_of_args (args' := #[.slice A2 ([⟨1, 3, 5, 500, ⟨#[114, 101, 110, 116]⟩, ⟨#[99, 104, 97, 114, 103, 101, 115]⟩⟩, ⟨2, 10, 10, 500, ⟨#[99, 104, 97, 114, 103, 101, 115]⟩, ⟨#[114, 101, 110, 116]⟩⟩] : List S24).length c2, .string ⟨#[114, 101, 110, 116]⟩, .int .i64 10, .int .i64 10]) rfl ?_; (with_reducible refine (ledger_Balance.calls A2 c2 [⟨1, 3, 5, 500, ⟨#[114, 101, 110, 116]⟩, ⟨#[99, 104, 97, 114, 103, 101, 115]⟩⟩, ⟨2, 10, 10, 500, ⟨#[99, 104, 97, 114, 103, 101, 115]⟩, ⟨#[114, 101, 110, 116]⟩⟩] ⟨#[114, 101, 110, 116]⟩ 10 10 0 0 _ ?s1 HL2.out F6.out).mono ?_); (case s1 => exact HR2.out); rintro e w6 ⟨rfl, hb⟩; replace HB := Aside0.mk (below_step HB.out hb); replace HR1 := Aside0.mk (Kd.C_below HR1.out hb); replace HR2 := Aside0.mk (Kd.C_below HR2.out hb); clear hb)
    | (go_at_call 20; refine calls_of_args (args' := #[.slice A2 ([⟨1, 3, 5, 500, ⟨#[114, 101, 110, 116]⟩, ⟨#[99, 104, 97, 114, 103, 101, 115]⟩⟩, ⟨2, 10, 10, 500, ⟨#[99, 104, 97, 114, 103, 101, 115]⟩, ⟨#[114, 101, 110, 116]⟩⟩] : List S24).length c2]) rfl ?_; (with_reducible refine (ledger_Accounts.calls A2 c2 [⟨1, 3, 5, 500, ⟨#[114, 101, 110, 116]⟩, ⟨#[99, 104, 97, 114, 103, 101, 115]⟩⟩, ⟨2, 10, 10, 500, ⟨#[99, 104, 97, 114, 103, 101, 115]⟩, ⟨#[114, 101, 110, 116]⟩⟩] _ 0 _ ?s1 HL2.out F7.out).mono ?_); (case s1 => exact HR2.out); rintro e w7 ⟨v3, rfl, hR, hb⟩; obtain ⟨A3, c3, rfl, hl1, hc1⟩ := Kd.R_reads hR; have HR3 := Aside0.mk hc1; have HL3 := Aside0.mk hl1; replace HB := Aside0.mk (below_step HB.out hb); replace HR1 := Aside0.mk (Kd.C_below HR1.out hb); replace HR2 := Aside0.mk (Kd.C_below HR2.out hb); clear hb; clear hR hl1 hc1)
    | (go_at_call 23; refine calls_of_args (args' := #[.slice A1 ([⟨1, 3, 5, 500, ⟨#[114, 101, 110, 116]⟩, ⟨#[99, 104, 97, 114, 103, 101, 115]⟩⟩] : List S24).length c1, .int .i64 2, .int .i64 3, .int .i64 10, .int .i64 10]) rfl ?_; (with_reducible refine (ledger_Reverse.calls A1 c1 [⟨1, 3, 5, 500, ⟨#[114, 101, 110, 116]⟩, ⟨#[99, 104, 97, 114, 103, 101, 115]⟩⟩] 2 3 10 10 _ 4 _ ?s1 HL1.out F8.out).mono ?_); (case s1 => exact HR1.out); rintro e w8 ⟨v4, rfl, hR, hb⟩; replace HB := Aside0.mk (below_step HB.out hb); replace HR1 := Aside0.mk (Kd.C_below HR1.out hb); replace HR2 := Aside0.mk (Kd.C_below HR2.out hb); replace HR3 := Aside0.mk (Kd.C_below HR3.out hb); clear hb; clear hR)
    | (go_at_call 13; refine calls_of_args (args' := #[.slice A1 ([⟨1, 3, 5, 500, ⟨#[114, 101, 110, 116]⟩, ⟨#[99, 104, 97, 114, 103, 101, 115]⟩⟩] : List S24).length c1, .agg #[.int .i64 1, .int .i64 0, .int .i64 0, .int .i64 1, .string ⟨#[97]⟩, .string ⟨#[98]⟩]]) rfl ?_; (with_reducible refine (ledger_Post.calls A1 c1 [⟨1, 3, 5, 500, ⟨#[114, 101, 110, 116]⟩, ⟨#[99, 104, 97, 114, 103, 101, 115]⟩⟩] 1 0 0 1 ⟨#[97]⟩ ⟨#[98]⟩ _ 5 _ ?s1 HL1.out F9.out).mono ?_); (case s1 => exact HR1.out); rintro e w9 ⟨v5, rfl, hR, hb⟩; replace HB := Aside0.mk (below_step HB.out hb); replace HR1 := Aside0.mk (Kd.C_below HR1.out hb); replace HR2 := Aside0.mk (Kd.C_below HR2.out hb); replace HR3 := Aside0.mk (Kd.C_below HR3.out hb); clear hb; clear hR))
  go_wp2_with (first
    | (go_at_call 22; refine calls_of_args (args' := #[.slice A3 ([⟨#[99, 104, 97, 114, 103, 101, 115]⟩, ⟨#[114, 101, 110, 116]⟩] : List ByteArray).length c3, .slice (some ⟨_, 0, none⟩) ([⟨#[99, 104, 97, 114, 103, 101, 115]⟩, ⟨#[114, 101, 110, 116]⟩] : List ByteArray).length 2]) rfl ?_; (with_reducible refine (cohousingref33_SameNames.calls 5 A3 c3 [⟨#[99, 104, 97, 114, 103, 101, 115]⟩, ⟨#[114, 101, 110, 116]⟩] _ 2 [⟨#[99, 104, 97, 114, 103, 101, 115]⟩, ⟨#[114, 101, 110, 116]⟩] true _ ?s1 HL3.out ?s3 (by decide) F10.out).mono ?_); (case s1 => first | exact Kd.C_alloc HR3.out _ | exact Kd.C_drew (Kd.C_alloc HR3.out _)); (case s3 => exact C_str_blk [⟨#[99, 104, 97, 114, 103, 101, 115]⟩, ⟨#[114, 101, 110, 116]⟩] (by first | exact blk_new _ _ | exact blk_drew (blk_new _ _)) (by decide)); rintro e w10 ⟨rfl, hd⟩; have hb := hd.below; replace HB := Aside0.mk (below_step (below_alloc HB.out _) hb); replace HR2 := Aside0.mk (Kd.C_below (Kd.C_alloc HR2.out _) hb); clear hb hd)
    | (go_at_call 15; refine calls_of_args (args' := #[.slice A2 ([⟨1, 3, 5, 500, ⟨#[114, 101, 110, 116]⟩, ⟨#[99, 104, 97, 114, 103, 101, 115]⟩⟩, ⟨2, 10, 10, 500, ⟨#[99, 104, 97, 114, 103, 101, 115]⟩, ⟨#[114, 101, 110, 116]⟩⟩] : List S24).length c2]) rfl ?_; (with_reducible refine (ledger_Valid.calls A2 c2 [⟨1, 3, 5, 500, ⟨#[114, 101, 110, 116]⟩, ⟨#[99, 104, 97, 114, 103, 101, 115]⟩⟩, ⟨2, 10, 10, 500, ⟨#[99, 104, 97, 114, 103, 101, 115]⟩, ⟨#[114, 101, 110, 116]⟩⟩] true _ ?s1 HL2.out F11.out).mono ?_); (case s1 => exact HR2.out); rintro e w11 ⟨rfl, hb⟩; replace HB := Aside0.mk (below_step HB.out hb); clear hb)
    | (go_at_call 15; refine calls_of_args (args' := #[.slice (some ⟨_, 0, none⟩) ([⟨1, 0, 0, 1, ⟨#[97]⟩, ⟨#[97]⟩⟩] : List S24).length 1]) rfl ?_; (with_reducible refine (ledger_Valid.calls _ 1 [⟨1, 0, 0, 1, ⟨#[97]⟩, ⟨#[97]⟩⟩] false _ ?s1 (by decide) F12.out).mono ?_); (case s1 => exact k24_one ⟨1, 0, 0, 1, ⟨#[97]⟩, ⟨#[97]⟩⟩ (blk_new _ _)); rintro e w12 ⟨rfl, hb⟩; replace HB := Aside0.mk (below_step (below_alloc HB.out _) hb); clear hb))
  go_ret
  exact ⟨rfl, HB.out⟩
end Go.Proofs.Ytnheelncgpgkiaa.P
