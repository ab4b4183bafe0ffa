/- What reach computes: the bounds of a history without drift, segment by segment. -/
import Derived.Test.YtknfkibnocfjiaaDoorMTight
import Derived.Test.YtknfkibnocfjiaaDoorLawMade
namespace Go.Proofs.YtknfkibnocfjiaaDoor.P
open Go.RowKit Go.Proofs.YtknfkibnocfjiaaDoorW.PrintWords Go.Proofs.YtknfkibnocfjiaaDoorW.PrintLast Go.Proofs.YtknfkibnocfjiaaDoorW.PrintMore Go.Proofs.YtknfkibnocfjiaaDoor.M
set_option linter.unusedVariables false
set_option linter.unusedSimpArgs false
/-- What is left, and the sum, ahead of the passes over a stretch: i passes are done. -/
def ins (g : Bool) (i : Nat) : Bool := if i = 0 then g else !g
def lfP (b g : Bool) (M S : Int) (c : Bool → Int) : Nat → Int
  | 0 => S
  | i + 1 => lfP b g M S c i - tk b g M (lfP b g M S c i) (c (ins g i))
def smP (b g : Bool) (M S V : Int) (c : Bool → Int) : Nat → Int
  | 0 => V
  | i + 1 => smP b g M S V c i + if ins g i = true then tk b g M (lfP b g M S c i) (c (ins g i)) else 0
theorem smP_two (b g : Bool) (M S V : Int) (c : Bool → Int) : smP b g M S V c 2 = V + segV g b M S (c true) (c false) := by
  unfold segV
  cases g
  · simp [smP, lfP, ins]
  · simp [smP, lfP, ins]
theorem lfP_bd (b g : Bool) {M S : Int} {c : Bool → Int} {C : Int} (hM : 0 ≤ M) (hS : 0 ≤ S) (hS2 : S ≤ M * C) (hc : ∀ i, 0 ≤ c i ∧ c i ≤ C) (i : Nat) (hi : i ≤ 1) : (b = true → 0 ≤ lfP b g M S c i) ∧ -(M * C) ≤ lfP b g M S c i ∧ lfP b g M S c i ≤ M * C := by
  have h0 := Int.mul_nonneg hM (show 0 ≤ C by have := hc true; omega)
  have hi' : i = 0 ∨ i = 1 := by omega
  rcases hi' with rfl | rfl
  · exact ⟨fun _ => hS, by show -(M * C) ≤ S; omega, hS2⟩
  · have h := tk_bd b g (M := M) (L := S) (c := c g) hM (fun _ => hS) (hc g).1
    have h2 := Int.mul_le_mul_of_nonneg_left (hc g).2 hM
    have e : lfP b g M S c 1 = S - tk b g M S (c g) := rfl
    rw [e]
    refine ⟨fun hb => ?_, by omega, by omega⟩
    have := h.2.1 hb
    omega

theorem smP_bd (b g : Bool) {M S V : Int} {c : Bool → Int} {C : Int} (hM : 0 ≤ M) (hS : 0 ≤ S) (hV : 0 ≤ V) (hc : ∀ i, 0 ≤ c i ∧ c i ≤ C) (i : Nat) (hi : i ≤ 1) : 0 ≤ smP b g M S V c i ∧ smP b g M S V c i ≤ V + M * C := by
  have h0 := Int.mul_nonneg hM (show 0 ≤ C by have := hc true; omega)
  have hi' : i = 0 ∨ i = 1 := by omega
  rcases hi' with rfl | rfl
  · exact ⟨hV, by show V ≤ _; omega⟩
  · have h := tk_bd b g (M := M) (L := S) (c := c g) hM (fun _ => hS) (hc g).1
    have h2 := Int.mul_le_mul_of_nonneg_left (hc g).2 hM
    have e : smP b g M S V c 1 = V + if g = true then tk b g M S (c g) else 0 := rfl
    rw [e]; split <;> omega
theorem ret_int' {a b : Int} (h : a = b) : Value.int .i64 a = Value.int .i64 b := by rw [h]
theorem rch_tt {p q : Bool} (h : true = (p && q)) : p = true ∧ q = true := by cases p <;> cases q <;> simp_all
theorem rch_tf {p q : Bool} (h : false = (p && q)) (hp : p = true) : q = false := by rw [hp, Bool.true_and] at h; exact h.symm
theorem rch_nt {p : Bool} (h : ¬ p = true) : p = false := by cases p <;> simp_all
theorem rch_nf {p : Bool} (h : ¬ p = false) : p = true := by cases p <;> simp_all
theorem set_two (b : Bool) : rdOf false [b, !b] 0 = b ∧ rdOf false [b, !b] 1 = !b := ⟨rfl, rfl⟩
set_option maxHeartbeats 32000000 in
set_option maxRecDepth 100000 in
theorem reach_calls (g : Bool) (x : S25) (st : Int) (sh : List Int) (rd : List Bool) (A5 : Option Addr) (k5 : Nat) (A6 : Option Addr) (k6 : Nat) (A7 : Option Addr) (r7 k7 : Nat) (A8 : Option Addr) (k8 : Nat) (d : S23) (w : World)
    (hm : 1 ≤ x.f2 ∧ x.f2 ≤ 10000) (hd : x.f3 = 0) (hdd : d.f0 < d.f1) (hf : 0 ≤ x.f4.f0 ∧ x.f4.f0 ≤ 36525) (hn : 1 ≤ sh.length ∧ sh.length ≤ 30)
    (h5 : (Kd.int .i64).C w A5 sh.length ((List.range sh.length).map (sAt (hM x sh.length) sh))) (h8 : Kd.bool.C w A8 (sh.length + 1) ((List.range (sh.length + 1)).map (rAt (hM x sh.length) rd))) :
    Calls Tryd.prog 24 #[.agg #[.int .i64 x.f0, .int .i64 x.f1, .int .i64 x.f2, .int .i64 x.f3, .int .i64 x.f4.f0, .int .i64 (x.f4.f0 + sh.length), .slice A5 sh.length k5, .slice A6 sh.length k6, .slice A7 r7 k7, .slice A8 (sh.length + 1) k8], .agg #[.int .i64 d.f0, .int .i64 d.f1], .bool g] w
      fun e w' => e = .returned (.int .i64 (rH g (hM x sh.length) d st sh rd sh.length sh.length)) ∧ Below w.heap.size w w' := by
  have hu25 := Tryd.underlying25
  have hu23 := Tryd.underlying23
  have hu53 := Tryd.underlying53
  have H5 := Aside0.mk h5
  have H8 := Aside0.mk h8
  have HR0 : Aside0 (rH g (hM x sh.length) d st sh rd sh.length 0 = 0) := ⟨rH_zero (m := hM x sh.length) hm.1 hd g st sh rd hn.1 (d := d)⟩
  have HRS : Aside0 (∀ f t : Nat, (rAt (hM x sh.length) rd f = true ∨ f = 0) → f < t → t ≤ sh.length → (∀ j, f < j → j < t → rAt (hM x sh.length) rd j = false) → (t < sh.length → rAt (hM x sh.length) rd t = true) →
      rH g (hM x sh.length) d st sh rd sh.length t = rH g (hM x sh.length) d st sh rd sh.length f + segV g (rAt (hM x sh.length) rd f && rAt (hM x sh.length) rd t) x.f2 (atS (hM x sh.length) st sh t - atS (hM x sh.length) st sh f) (nS (hM x sh.length) d true f t) (nS (hM x sh.length) d false f t)) :=
    ⟨fun f t a b c e1 e2 => rH_step (m := hM x sh.length) hm.1 hd hdd g st sh rd (n := sh.length) (f := f) (t := t) a b c e1 e2⟩
  have HT : Aside0 (∀ k, atS (hM x sh.length) st sh (k + 1) = atS (hM x sh.length) st sh k + sAt (hM x sh.length) sh k) := ⟨fun k => rfl⟩
  have HTb : Aside0 (∀ a b : Nat, a ≤ b → 0 ≤ atS (hM x sh.length) st sh b - atS (hM x sh.length) st sh a ∧ atS (hM x sh.length) st sh b - atS (hM x sh.length) st sh a ≤ x.f2 * ((b : Int) - a)) := ⟨fun a b h => atS_mono (m := hM x sh.length) hm.1 st sh h⟩
  have HS : Aside0 (∀ k, 0 ≤ sAt (hM x sh.length) sh k ∧ sAt (hM x sh.length) sh k ≤ x.f2) := ⟨fun k => sAt_bd (m := hM x sh.length) hm.1 sh k⟩
  have HN1 : Aside0 (∀ i f k, nS (hM x sh.length) d i f (k + 1) = nS (hM x sh.length) d i f k + if inD (hM x sh.length) d k = i then 1 else 0) := ⟨fun i f k => nS_succ _ d i f k⟩
  have HN0 : Aside0 (∀ i f, nS (hM x sh.length) d i f f = 0) := ⟨fun i f => nS_self _ d i f⟩
  have HNb : Aside0 (∀ i (f k : Nat), f ≤ k → 0 ≤ nS (hM x sh.length) d i f k ∧ nS (hM x sh.length) d i f k ≤ (k : Int) - f) := ⟨fun i f k h => by
    have := nS_bd (hM x sh.length) d i f (k - f)
    rw [show f + (k - f) = k by omega] at this
    omega⟩
  have HID : Aside0 (∀ k : Nat, inD (hM x sh.length) d k = (decide (d.f0 ≤ x.f4.f0 + (k : Int)) && decide (x.f4.f0 + (k : Int) < d.f1))) := ⟨fun k => rfl⟩
  generalize rH g (hM x sh.length) d st sh rd sh.length = RH at *
  generalize atS (hM x sh.length) st sh = T at *
  generalize rAt (hM x sh.length) rd = R at *
  generalize sAt (hM x sh.length) sh = S at *
  generalize nS (hM x sh.length) d = N at *
  generalize inD (hM x sh.length) d = ID at *
  clear h5 h8 hd hdd st
  have HB := Aside0.mk (below_alloc (below_alloc (Below.refl w.heap.size w) (.cells #[.int .i64 x.f0, .int .i64 x.f1, .int .i64 x.f2, .int .i64 x.f3, .int .i64 x.f4.f0, .int .i64 (x.f4.f0 + sh.length), .slice A5 sh.length k5, .slice A6 sh.length k6, .slice A7 r7 k7, .slice A8 (sh.length + 1) k8] 53)) (.cells #[.int .i64 d.f0, .int .i64 d.f1] 23))
  have BH := Aside0.mk (blk_alloc (blk_new w (.cells #[.int .i64 x.f0, .int .i64 x.f1, .int .i64 x.f2, .int .i64 x.f3, .int .i64 x.f4.f0, .int .i64 (x.f4.f0 + sh.length), .slice A5 sh.length k5, .slice A6 sh.length k6, .slice A7 r7 k7, .slice A8 (sh.length + 1) k8] 53)) (.cells #[.int .i64 d.f0, .int .i64 d.f1] 23))
  have BD := Aside0.mk (blk_p1 w (.cells #[.int .i64 x.f0, .int .i64 x.f1, .int .i64 x.f2, .int .i64 x.f3, .int .i64 x.f4.f0, .int .i64 (x.f4.f0 + sh.length), .slice A5 sh.length k5, .slice A6 sh.length k6, .slice A7 r7 k7, .slice A8 (sh.length + 1) k8] 53) (.cells #[.int .i64 d.f0, .int .i64 d.f1] 23))
  go_enter Tryd.func24, Tryd.ntmps24
  go_wp2
  go_loopg [7, 8] sh.length (fun gk v7 v8 w' => ∃ f : Nat, v7 = .int .i64 (RH f) ∧ v8 = .int .i64 f ∧ Aside0 (f ≤ sh.length ∧ gk = sh.length - f ∧ (f < sh.length → R f = true ∨ f = 0) ∧ 0 ≤ RH f ∧ RH f ≤ 10000 * f) ∧ Aside0 (w'.heap[w.heap.size]? = some (.cells #[.int .i64 x.f0, .int .i64 x.f1, .int .i64 x.f2, .int .i64 x.f3, .int .i64 x.f4.f0, .int .i64 (x.f4.f0 + sh.length), .slice A5 sh.length k5, .slice A6 sh.length k6, .slice A7 r7 k7, .slice A8 (sh.length + 1) k8] 53 (0, 0)) ∧ w'.heap[w.heap.size + 1]? = some (.cells #[.int .i64 d.f0, .int .i64 d.f1] 23 (0, 0)) ∧ Below w.heap.size w w'))
  case atStart => exact ⟨0, by rw [HR0.out], rfl, ⟨Nat.zero_le _, rfl, fun _ => .inr rfl, by rw [HR0.out]; exact ⟨Int.le_refl _, by omega⟩⟩, ⟨BH.out, BD.out, HB.out⟩⟩
  case round =>
    clear HB BH BD HR0
    obtain ⟨f, rfl, rfl, HF, HW⟩ := hrel
    have hfn := HF.out.1
    by_cases hlt : f < sh.length
    ·
      have c2 : wr.cell? ⟨w.heap.size, 2, none⟩ = some (.int .i64 x.f2) := (blk_cell HW.out.1 2).trans rfl
      have c4 : wr.cell? ⟨w.heap.size, 4, none⟩ = some (.int .i64 x.f4.f0) := (blk_cell HW.out.1 4).trans rfl
      have c6 : wr.cell? ⟨w.heap.size, 6, none⟩ = some (.slice A5 sh.length k5) := (blk_cell HW.out.1 6).trans rfl
      have c9 : wr.cell? ⟨w.heap.size, 9, none⟩ = some (.slice A8 (sh.length + 1) k8) := (blk_cell HW.out.1 9).trans rfl
      have d0 : wr.cell? ⟨w.heap.size + 1, 0, none⟩ = some (.int .i64 d.f0) := (blk_cell HW.out.2.1 0).trans rfl
      have d1 : wr.cell? ⟨w.heap.size + 1, 1, none⟩ = some (.int .i64 d.f1) := (blk_cell HW.out.2.1 1).trans rfl
      have g1 : decide ((f : Int) < (sh.length : Int)) = true := decide_eq_true (by omega)
      have g2 : decide (f < sh.length) = true := decide_eq_true hlt
      go_upto_block 2 with (fail)
      clear g1 g2 c2 c4 d0 d1
      go_cut [9] (fun v9 wc => ∃ t : Nat, v9 = .int .i64 t ∧ Aside0 (f < t ∧ t ≤ sh.length ∧ (∀ j, f < j → j < t → R j = false) ∧ (t < sh.length → R t = true)) ∧ wr = wc)
      case first =>
        go_wp2
        go_loopg [9] (sh.length - (f + 1)) (fun gk v9 w' => ∃ t : Nat, v9 = .int .i64 t ∧ Aside0 (f < t ∧ t ≤ sh.length ∧ gk = sh.length - t ∧ (∀ j, f < j → j < t → R j = false)) ∧ w' = wr)
        case atStart => exact ⟨f + 1, by go_num, ⟨by omega, by omega, by omega, fun j h1 h2 => by omega⟩, rfl⟩
        case round =>
          obtain ⟨t, rfl, HK, rfl⟩ := hrel
          have ht1 := HK.out.1
          have ht2 := HK.out.2.1
          by_cases htn : t < sh.length
          · have g1 : decide ((t : Int) < (sh.length : Int)) = true := decide_eq_true (by omega)
            have g2 : decide (t < sh.length) = true := decide_eq_true htn
            obtain ⟨ad, e8, x8⟩ := Kd.at_bool (Kd.C_below H8.out HW.out.2.2) (t : Int) (by omega) (by omega)
            subst e8
            simp only [Int.toNat_natCast] at x8
            rw [show rdOf false ((List.range (sh.length + 1)).map R) (t : Int) = R t by unfold rdOf; rw [Int.toNat_natCast, List.getD_eq_getElem?_getD, List.getElem?_map, List.getElem?_range (by omega)]; rfl] at x8
            have j0 : (0 : Int) ≤ (t : Int) := by omega
            have j1 : (t : Int) < ((sh.length + 1 : Nat) : Int) := by omega
            have j2 : (t : Int) < (sh.length : Int) + 1 := by omega
            have w1 : IntKind.i64.wrap ((t : Int) + 1) = (t : Int) + 1 := Go.IntWalk.i64_in _ (by omega)
            by_cases hr : R t = true
            · have HRt := Aside0.mk hr
              rw [hr] at x8
              clear hr
              go_wp2
              go_meet
              case rel => exact ⟨t, rfl, ⟨ht1, ht2, HK.out.2.2.2, fun _ => HRt.out⟩, rfl⟩
            · rw [Bool.not_eq_true] at hr
              have HRt := Aside0.mk hr
              rw [hr] at x8
              clear hr
              go_wp2
              go_roundg (sh.length - (t + 1))
              case measure => have := HK.out; omega
              case rel => exact ⟨t + 1, by go_num, ⟨by omega, by omega, rfl, fun j h1 h2 => by
                rcases Nat.lt_or_ge j t with h | h
                · exact HK.out.2.2.2 j h1 h
                · obtain rfl : j = t := by omega
                  exact HRt.out⟩, rfl⟩
          · obtain rfl : t = sh.length := by omega
            have g1 : decide ((sh.length : Int) < (sh.length : Int)) = false := decide_eq_false (by omega)
            have g2 : decide (sh.length < sh.length) = false := decide_eq_false (by omega)
            go_wp2
            go_meet
            case rel => exact ⟨sh.length, rfl, ⟨ht1, ht2, HK.out.2.2.2, fun h => absurd h (Nat.lt_irrefl _)⟩, rfl⟩
      case rest =>
        obtain ⟨t, rfl, HTo, rfl⟩ := hcut
        have hft := HTo.out.1
        have htn := HTo.out.2.1
        go_upto_block 4 with (fail)
        go_cut [10] (fun v10 wc => v10 = .int .i64 (T t - T f) ∧ wr = wc)
        case first =>
          go_wp2
          go_loopg [10, 11] (t - f) (fun gk v10 v11 w' => ∃ k : Nat, v10 = .int .i64 (T k - T f) ∧ v11 = .int .i64 k ∧ Aside0 (f ≤ k ∧ k ≤ t ∧ gk = t - k) ∧ w' = wr)
          case atStart => exact ⟨f, by rw [Int.sub_self], rfl, ⟨Nat.le_refl _, Nat.le_of_lt hft, rfl⟩, rfl⟩
          case round =>
            obtain ⟨k, rfl, rfl, HK, rfl⟩ := hrel
            have hk0 := HK.out.1
            have hk1 := HK.out.2.1
            by_cases hkt : k < t
            · have g1 : decide ((k : Int) < (t : Int)) = true := decide_eq_true (by omega)
              have g2 : decide (k < t) = true := decide_eq_true hkt
              obtain ⟨ad, e8, x8⟩ := Kd.at_int (Kd.C_below H5.out HW.out.2.2) (k : Int) (by omega) (by omega)
              subst e8
              simp only [Int.toNat_natCast] at x8
              rw [show Go.Proofs.YtknfkibnocfjiaaDoorW.PrintWords.rd ((List.range sh.length).map S) (k : Int) = S k by show List.getD _ (Int.toNat (k : Int)) 0 = _; rw [Int.toNat_natCast, List.getD_eq_getElem?_getD, List.getElem?_map, List.getElem?_range (by omega)]; rfl] at x8
              have j0 : (0 : Int) ≤ (k : Int) := by omega
              have j1 : (k : Int) < (sh.length : Int) := by omega
              have hb := HTb.out f k hk0
              have hb2 : x.f2 * ((k : Int) - f) ≤ 300000 := Int.le_trans (Int.mul_le_mul_of_nonneg_left (show (k : Int) - f ≤ 30 by omega) (show 0 ≤ x.f2 by omega)) (by omega)
              have hs := HS.out k
              have HT1 : Aside0 (T (k + 1) - T f = T k - T f + S k) := ⟨by rw [HT.out]; omega⟩
              have hb3 : 0 ≤ T k - T f ∧ T k - T f ≤ 300000 := ⟨hb.1, by omega⟩
              clear hb hb2
              generalize T k - T f = l at *
              generalize S k = s at *
              have w1 : IntKind.i64.wrap ((k : Int) + 1) = (k : Int) + 1 := Go.IntWalk.i64_in _ (by omega)
              have w2 : IntKind.i64.wrap (l + s) = l + s := Go.IntWalk.i64_in _ (by omega)
              have HKT := Aside0.mk hkt
              clear hkt
              go_wp2
              go_roundg (t - (k + 1))
              case measure => have := HK.out; have := HKT.out; omega
              case rel => exact ⟨k + 1, by rw [HT1.out], by go_num, ⟨by omega, by have := HKT.out; omega, rfl⟩, rfl⟩
            · obtain rfl : k = t := by omega
              have g1 : decide ((k : Int) < (k : Int)) = false := decide_eq_false (by omega)
              have g2 : decide (k < k) = false := decide_eq_false (by omega)
              go_wp2
              go_meet
              case rel => exact ⟨rfl, rfl⟩
        case rest =>
          obtain ⟨rfl, rfl⟩ := hcut
          go_upto_region 11 with (fail)
          have hTS : Aside0 (RH t = RH f + segV g (R f && R t) x.f2 (T t - T f) (N true f t) (N false f t)) := ⟨HRS.out f t (HF.out.2.2.1 hlt) hft htn HTo.out.2.2.1 HTo.out.2.2.2⟩
          go_cut [12] (fun v12 wc => v12 = .bool (R f && R t) ∧ wr = wc)
          case first =>
            obtain ⟨ad, e8, x8⟩ := Kd.at_bool (Kd.C_below H8.out HW.out.2.2) (f : Int) (by omega) (by omega)
            obtain ⟨ad', e9, x9⟩ := Kd.at_bool (Kd.C_below H8.out HW.out.2.2) (t : Int) (by omega) (by omega)
            subst e8
            obtain rfl : ad = ad' := Option.some.inj e9
            clear e9
            simp only [Int.toNat_natCast] at x8 x9
            rw [show rdOf false ((List.range (sh.length + 1)).map R) (f : Int) = R f by unfold rdOf; rw [Int.toNat_natCast, List.getD_eq_getElem?_getD, List.getElem?_map, List.getElem?_range (by omega)]; rfl] at x8
            rw [show rdOf false ((List.range (sh.length + 1)).map R) (t : Int) = R t by unfold rdOf; rw [Int.toNat_natCast, List.getD_eq_getElem?_getD, List.getElem?_map, List.getElem?_range (by omega)]; rfl] at x9
            have j0 : (0 : Int) ≤ (f : Int) := by omega
            have j1 : (f : Int) < ((sh.length + 1 : Nat) : Int) := by omega
            have j2 : (f : Int) < (sh.length : Int) + 1 := by omega
            have i0 : (0 : Int) ≤ (t : Int) := by omega
            have i1 : (t : Int) < ((sh.length + 1 : Nat) : Int) := by omega
            have i2 : (t : Int) < (sh.length : Int) + 1 := by omega
            generalize R f = b1 at *
            generalize R t = b2 at *
            cases b1 <;> (go_wp2; go_meet; case rel => exact ⟨by simp, rfl⟩)
          case rest =>
            obtain ⟨rfl, rfl⟩ := hcut
            have hbb := HTb.out f t (Nat.le_of_lt hft)
            have hL : Aside0 (RH t = smP (R f && R t) g x.f2 (T t - T f) (RH f) (fun i => N i f t) 2) := ⟨by rw [hTS.out, smP_two]⟩
            clear hTS
            generalize (R f && R t) = b at *
            have hC : x.f2 * ((t : Int) - f) ≤ 300000 := Int.le_trans (Int.mul_le_mul_of_nonneg_left (show (t : Int) - f ≤ 30 by omega) (show 0 ≤ x.f2 by omega)) (by omega)
            have HLB : Aside0 (∀ i : Nat, i ≤ 1 → (b = true → 0 ≤ lfP b g x.f2 (T t - T f) (fun i => N i f t) i) ∧ -300000 ≤ lfP b g x.f2 (T t - T f) (fun i => N i f t) i ∧ lfP b g x.f2 (T t - T f) (fun i => N i f t) i ≤ 300000) := ⟨fun i hi => by
              have := lfP_bd b g (M := x.f2) (c := fun i => N i f t) (C := (t : Int) - f) (by omega) hbb.1 hbb.2 (fun i => HNb.out i f t (Nat.le_of_lt hft)) i hi
              exact ⟨this.1, by omega, by omega⟩⟩
            have HSB : Aside0 (∀ i : Nat, i ≤ 1 → 0 ≤ smP b g x.f2 (T t - T f) (RH f) (fun i => N i f t) i ∧ smP b g x.f2 (T t - T f) (RH f) (fun i => N i f t) i ≤ 600000) := ⟨fun i hi => by
              have := smP_bd b g (M := x.f2) (V := RH f) (c := fun i => N i f t) (C := (t : Int) - f) (by omega) hbb.1 HF.out.2.2.2.1 (fun i => HNb.out i f t (Nat.le_of_lt hft)) i hi
              have := HF.out.2.2.2.2
              omega⟩
            have HRb : Aside0 (0 ≤ smP b g x.f2 (T t - T f) (RH f) (fun i => N i f t) 2 ∧ smP b g x.f2 (T t - T f) (RH f) (fun i => N i f t) 2 ≤ 10000 * t) := ⟨by
              rw [smP_two]
              have h := HF.out.2.2.2
              have h1 := tk_bd b true (M := x.f2) (L := T t - T f) (c := N true f t) (by omega) (fun _ => hbb.1) (HNb.out true f t (Nat.le_of_lt hft)).1
              have h3 := tk_bd b false (M := x.f2) (L := T t - T f) (c := N false f t) (by omega) (fun _ => hbb.1) (HNb.out false f t (Nat.le_of_lt hft)).1
              have h2 := tk_bd b false (M := x.f2) (L := T t - T f - tk b false x.f2 (T t - T f) (N false f t)) (c := N true f t) (by omega) (fun e => by have := h3.2.1 e; omega) (HNb.out true f t (Nat.le_of_lt hft)).1
              have h4 := Int.mul_le_mul_of_nonneg_left (HNb.out true f t (Nat.le_of_lt hft)).2 (show 0 ≤ x.f2 by omega)
              have h5 := Int.mul_le_mul_of_nonneg_right hm.2 (show 0 ≤ (t : Int) - f by omega)
              unfold segV
              split <;> omega⟩
            have HSM : Aside0 (∀ i, smP b g x.f2 (T t - T f) (RH f) (fun i => N i f t) (i + 1) = smP b g x.f2 (T t - T f) (RH f) (fun i => N i f t) i + if ins g i = true then tk b g x.f2 (lfP b g x.f2 (T t - T f) (fun i => N i f t) i) (N (ins g i) f t) else 0) := ⟨fun i => rfl⟩
            have HLF : Aside0 (∀ i, lfP b g x.f2 (T t - T f) (fun i => N i f t) (i + 1) = lfP b g x.f2 (T t - T f) (fun i => N i f t) i - tk b g x.f2 (lfP b g x.f2 (T t - T f) (fun i => N i f t) i) (N (ins g i) f t)) := ⟨fun i => rfl⟩
            have HSM0 : Aside0 (smP b g x.f2 (T t - T f) (RH f) (fun i => N i f t) 0 = RH f) := ⟨rfl⟩
            have HLF0 : Aside0 (lfP b g x.f2 (T t - T f) (fun i => N i f t) 0 = T t - T f) := ⟨rfl⟩
            generalize smP b g x.f2 (T t - T f) (RH f) (fun i => N i f t) = SM at *
            generalize lfP b g x.f2 (T t - T f) (fun i => N i f t) = LF at *
            generalize T t - T f = S0 at *
            have hwb := HW.out.2.2
            go_upto_block 6 with (first
              | ((with_reducible refine gate_dst (N := 68) rfl ?_); refine Kd.R_lit Kd.bool (w0 := wr) wr.heap.size 4 rfl (N := 68) rfl (xs := [g, !g]) (inner := [.bool g, .bool !g]) (ok := fun _ => True) (okp := fun _ => False) ?hr (Kd.reps_scalar (enc := Value.bool) [g, !g]) (fun _ h => h.elim) trivial (Below.refl _ _) (Nat.le_refl _) (by simp) ?_; (case hr => first | (go_simp; done) | (go_simp; rfl)); intro v1 w5 ho hb hg hat; obtain ⟨gs, cs, rfl, hg1, hg2, hg3⟩ := Kd.R_form ho (by simp); have HO := Aside0.mk ho; have HK5 := Aside0.mk hb; clear ho hb hg hat hg2 hg3 hg1))
            have BH5 := Aside0.mk (blk_below HW.out.1 HK5.out)
            have BD5 := Aside0.mk (blk_below HW.out.2.1 HK5.out)
            have HB5 := Aside0.mk (below_step hwb HK5.out)
            clear hwb
            have c2 : w5.cell? ⟨w.heap.size, 2, none⟩ = some (.int .i64 x.f2) := (blk_cell BH5.out 2).trans rfl
            have c4 : w5.cell? ⟨w.heap.size, 4, none⟩ = some (.int .i64 x.f4.f0) := (blk_cell BH5.out 4).trans rfl
            have d0 : w5.cell? ⟨w.heap.size + 1, 0, none⟩ = some (.int .i64 d.f0) := (blk_cell BD5.out 0).trans rfl
            have d1 : w5.cell? ⟨w.heap.size + 1, 1, none⟩ = some (.int .i64 d.f1) := (blk_cell BD5.out 1).trans rfl
            obtain ⟨_, _, em, _, hcq⟩ := Kd.R_reads HO.out
            obtain ⟨ad, ea, e0⟩ := Kd.at_bool hcq 0 (by omega) (by simp)
            obtain ⟨ad', ea', e1⟩ := Kd.at_bool hcq 1 (by omega) (by simp)
            simp only [Value.slice.injEq] at em
            rw [← em.1] at ea ea'
            cases ea
            cases ea'
            rw [(set_two g).1] at e0
            rw [(set_two g).2] at e1
            rw [show (0 : Int).toNat = 0 from rfl, add_plain] at e0
            rw [show (1 : Int).toNat = 1 from rfl, add_plain] at e1
            clear em hcq HO hC hbb
            go_cut [7] (fun v7 wc => v7 = .int .i64 (RH t) ∧ w5 = wc)
            case first =>
              cases g
              · simp only [Bool.not_false] at e1
                go_wp2
                go_loopg [7, 10, 70] 2 (fun gk v7 v10 v70 w' => ∃ i : Nat, v7 = .int .i64 (SM i) ∧ v10 = .int .i64 (LF i) ∧ v70 = .int .i64 i ∧ Aside0 (i ≤ 2 ∧ gk = 2 - i) ∧ w' = w5)
                case atStart => exact ⟨0, by rw [HSM0.out], by rw [HLF0.out], rfl, ⟨by omega, rfl⟩, rfl⟩
                case round =>
                  obtain ⟨i, rfl, rfl, rfl, HI, rfl⟩ := hrel
                  have hi3 : i = 0 ∨ i = 1 ∨ i = 2 := by have := HI.out; omega
                  rcases hi3 with rfl | rfl | rfl
                  · have HLi := HLB.out 0 (by omega)
                    have HSi := HSB.out 0 (by omega)
                    have HSM1 : Aside0 (SM 1 = SM 0) := ⟨by have := HSM.out 0; simpa [ins] using this⟩
                    have HLF1 : Aside0 (LF 1 = LF 0 - tk b false x.f2 (LF 0) (N false f t)) := ⟨by have := HLF.out 0; simpa [ins] using this⟩
                    have g3 : decide ((0 : Int) < 2) = true := by decide
                    go_wp2
                    go_loopg [7, 10, 15] (t - f) (fun gk v7 v10 v15 w' => ∃ k : Nat, v7 = .int .i64 (SM 0) ∧ v10 = .int .i64 (LF 0 - tk b false x.f2 (LF 0) (N false f k)) ∧ v15 = .int .i64 k ∧ Aside0 (f ≤ k ∧ k ≤ t ∧ gk = t - k) ∧ w' = wr)
                    case atStart => exact ⟨f, rfl, by rw [HN0.out, tk_zero b false HLi.1, Int.sub_zero], rfl, ⟨Nat.le_refl _, Nat.le_of_lt hft, rfl⟩, rfl⟩
                    case round =>
                      obtain ⟨k, rfl, rfl, rfl, HK, rfl⟩ := hrel
                      have hk0 := HK.out.1
                      have hk1 := HK.out.2.1
                      by_cases hkt : k < t
                      · have g1 : decide ((k : Int) < (t : Int)) = true := decide_eq_true (by omega)
                        have g2 : decide (k < t) = true := decide_eq_true hkt
                        have w1 : IntKind.i64.wrap (x.f4.f0 + (k : Int)) = x.f4.f0 + (k : Int) := Go.IntWalk.i64_in _ (by omega)
                        have w2 : IntKind.i64.wrap ((k : Int) + 1) = (k : Int) + 1 := Go.IntWalk.i64_in _ (by omega)
                        have hnb := HNb.out false f k hk0
                        have hns := HN1.out false f k
                        have htb := tk_bd b false (M := x.f2) (L := LF 0) (c := N false f k) (by omega) HLi.1 hnb.1
                        have hts := tk_succ b false (M := x.f2) (L := LF 0) (c := N false f k) (by omega) HLi.1 hnb.1
                        have hmc : x.f2 * N false f k ≤ 300000 := Int.le_trans (Int.mul_le_mul_of_nonneg_left (show N false f k ≤ 30 by omega) (show 0 ≤ x.f2 by omega)) (by omega)
                        have hid := HID.out k
                        have HKT := Aside0.mk hkt
                        clear hkt
                        have hy : 0 ≤ tk b false x.f2 (LF 0) (N false f k) ∧ tk b false x.f2 (LF 0) (N false f k) ≤ 300000 := ⟨htb.1, by omega⟩
                        have hyl : b = true → 0 ≤ LF 0 - tk b false x.f2 (LF 0) (N false f k) := fun h => by have := htb.2.1 h; omega
                        clear htb hmc hnb
                        by_cases hin : ID k = false
                        · have HT2 : Aside0 (tk b false x.f2 (LF 0) (N false f (k + 1)) = tk b false x.f2 (LF 0) (N false f k) + tk1 b false x.f2 (LF 0 - tk b false x.f2 (LF 0) (N false f k))) := ⟨by rw [hns, if_pos hin]; exact hts⟩
                          rw [hin] at hid
                          have HP := Aside0.mk hid
                          clear hns hts hin hid
                          generalize tk b false x.f2 (LF 0) (N false f k) = y at *
                          generalize LF 0 = l at *
                          generalize SM 0 = v at *
                          by_cases p0 : d.f0 ≤ x.f4.f0 + (k : Int)
                          · have p1 := decide_eq_true p0
                            have p2 : decide (x.f4.f0 + (k : Int) < d.f1) = false := rch_tf HP.out p1
                            clear p0 HP
                            cases b
                            · have HE : Aside0 (tk1 false false x.f2 (l - y) = 0) := ⟨rfl⟩
                              have w4 : IntKind.i64.wrap (l - y - 0) = l - y - 0 := Go.IntWalk.i64_in _ (by omega)
                              go_wp2
                              go_roundg (t - (k + 1))
                              case measure => have := HK.out; have := HKT.out; omega
                              case rel => exact ⟨k + 1, rfl, by rw [HT2.out, HE.out]; exact ret_int' (by omega), by go_num, ⟨by omega, by have := HKT.out; omega, rfl⟩, rfl⟩
                            · have hl0 := hyl rfl
                              by_cases hmin : l - y ≤ x.f2
                              · have HE : Aside0 (tk1 true false x.f2 (l - y) = l - y) := ⟨by unfold tk1 mn; rw [if_pos rfl]; split <;> omega⟩
                                have w4 : IntKind.i64.wrap (l - y - (l - y)) = l - y - (l - y) := Go.IntWalk.i64_in _ (by omega)
                                go_wp2
                                go_roundg (t - (k + 1))
                                case measure => have := HK.out; have := HKT.out; omega
                                case rel => exact ⟨k + 1, rfl, by rw [HT2.out, HE.out]; exact ret_int' (by omega), by go_num, ⟨by omega, by have := HKT.out; omega, rfl⟩, rfl⟩
                              · have HE : Aside0 (tk1 true false x.f2 (l - y) = x.f2) := ⟨by unfold tk1 mn; rw [if_pos rfl, if_pos (by omega)]⟩
                                have w4 : IntKind.i64.wrap (l - y - x.f2) = l - y - x.f2 := Go.IntWalk.i64_in _ (by omega)
                                go_wp2
                                go_roundg (t - (k + 1))
                                case measure => have := HK.out; have := HKT.out; omega
                                case rel => exact ⟨k + 1, rfl, by rw [HT2.out, HE.out]; exact ret_int' (by omega), by go_num, ⟨by omega, by have := HKT.out; omega, rfl⟩, rfl⟩
                          · have p1 := decide_eq_false p0
                            clear p0 HP
                            cases b
                            · have HE : Aside0 (tk1 false false x.f2 (l - y) = 0) := ⟨rfl⟩
                              have w4 : IntKind.i64.wrap (l - y - 0) = l - y - 0 := Go.IntWalk.i64_in _ (by omega)
                              go_wp2
                              go_roundg (t - (k + 1))
                              case measure => have := HK.out; have := HKT.out; omega
                              case rel => exact ⟨k + 1, rfl, by rw [HT2.out, HE.out]; exact ret_int' (by omega), by go_num, ⟨by omega, by have := HKT.out; omega, rfl⟩, rfl⟩
                            · have hl0 := hyl rfl
                              by_cases hmin : l - y ≤ x.f2
                              · have HE : Aside0 (tk1 true false x.f2 (l - y) = l - y) := ⟨by unfold tk1 mn; rw [if_pos rfl]; split <;> omega⟩
                                have w4 : IntKind.i64.wrap (l - y - (l - y)) = l - y - (l - y) := Go.IntWalk.i64_in _ (by omega)
                                go_wp2
                                go_roundg (t - (k + 1))
                                case measure => have := HK.out; have := HKT.out; omega
                                case rel => exact ⟨k + 1, rfl, by rw [HT2.out, HE.out]; exact ret_int' (by omega), by go_num, ⟨by omega, by have := HKT.out; omega, rfl⟩, rfl⟩
                              · have HE : Aside0 (tk1 true false x.f2 (l - y) = x.f2) := ⟨by unfold tk1 mn; rw [if_pos rfl, if_pos (by omega)]⟩
                                have w4 : IntKind.i64.wrap (l - y - x.f2) = l - y - x.f2 := Go.IntWalk.i64_in _ (by omega)
                                go_wp2
                                go_roundg (t - (k + 1))
                                case measure => have := HK.out; have := HKT.out; omega
                                case rel => exact ⟨k + 1, rfl, by rw [HT2.out, HE.out]; exact ret_int' (by omega), by go_num, ⟨by omega, by have := HKT.out; omega, rfl⟩, rfl⟩
                        · have HT2 : Aside0 (tk b false x.f2 (LF 0) (N false f (k + 1)) = tk b false x.f2 (LF 0) (N false f k)) := ⟨by rw [hns, if_neg hin, Int.add_zero]⟩
                          have hin2 : ID k = true := rch_nf hin
                          rw [hin2] at hid
                          have HP := Aside0.mk hid
                          clear hns hts hin hin2 hid
                          generalize tk b false x.f2 (LF 0) (N false f k) = y at *
                          generalize LF 0 = l at *
                          generalize SM 0 = v at *
                          obtain ⟨p1, p2⟩ := rch_tt HP.out
                          go_wp2
                          go_roundg (t - (k + 1))
                          case measure => have := HK.out; have := HKT.out; omega
                          case rel => exact ⟨k + 1, rfl, by rw [HT2.out], by go_num, ⟨by omega, by have := HKT.out; omega, rfl⟩, rfl⟩
                      · obtain rfl : k = t := by omega
                        have g1 : decide ((k : Int) < (k : Int)) = false := decide_eq_false (by omega)
                        have g2 : decide (k < k) = false := decide_eq_false (by omega)
                        go_wp2
                        go_roundg (2 - 1)
                        case measure => have := HI.out; omega
                        case rel => exact ⟨1, by rw [HSM1.out], by rw [HLF1.out], by go_num, ⟨by omega, rfl⟩, rfl⟩
                  · have HLi := HLB.out 1 (by omega)
                    have HSi := HSB.out 1 (by omega)
                    have HSM1 : Aside0 (SM 2 = SM 1 + tk b false x.f2 (LF 1) (N true f t)) := ⟨by have := HSM.out 1; simpa [ins] using this⟩
                    have HLF1 : Aside0 (LF 2 = LF 1 - tk b false x.f2 (LF 1) (N true f t)) := ⟨by have := HLF.out 1; simpa [ins] using this⟩
                    have g3 : decide ((1 : Int) < 2) = true := by decide
                    go_wp2
                    go_loopg [7, 10, 15] (t - f) (fun gk v7 v10 v15 w' => ∃ k : Nat, v7 = .int .i64 (SM 1 + tk b false x.f2 (LF 1) (N true f k)) ∧ v10 = .int .i64 (LF 1 - tk b false x.f2 (LF 1) (N true f k)) ∧ v15 = .int .i64 k ∧ Aside0 (f ≤ k ∧ k ≤ t ∧ gk = t - k) ∧ w' = wr)
                    case atStart => exact ⟨f, by rw [HN0.out, tk_zero b false HLi.1, Int.add_zero], by rw [HN0.out, tk_zero b false HLi.1, Int.sub_zero], rfl, ⟨Nat.le_refl _, Nat.le_of_lt hft, rfl⟩, rfl⟩
                    case round =>
                      obtain ⟨k, rfl, rfl, rfl, HK, rfl⟩ := hrel
                      have hk0 := HK.out.1
                      have hk1 := HK.out.2.1
                      by_cases hkt : k < t
                      · have g1 : decide ((k : Int) < (t : Int)) = true := decide_eq_true (by omega)
                        have g2 : decide (k < t) = true := decide_eq_true hkt
                        have w1 : IntKind.i64.wrap (x.f4.f0 + (k : Int)) = x.f4.f0 + (k : Int) := Go.IntWalk.i64_in _ (by omega)
                        have w2 : IntKind.i64.wrap ((k : Int) + 1) = (k : Int) + 1 := Go.IntWalk.i64_in _ (by omega)
                        have hnb := HNb.out true f k hk0
                        have hns := HN1.out true f k
                        have htb := tk_bd b false (M := x.f2) (L := LF 1) (c := N true f k) (by omega) HLi.1 hnb.1
                        have hts := tk_succ b false (M := x.f2) (L := LF 1) (c := N true f k) (by omega) HLi.1 hnb.1
                        have hmc : x.f2 * N true f k ≤ 300000 := Int.le_trans (Int.mul_le_mul_of_nonneg_left (show N true f k ≤ 30 by omega) (show 0 ≤ x.f2 by omega)) (by omega)
                        have hid := HID.out k
                        have HKT := Aside0.mk hkt
                        clear hkt
                        have hy : 0 ≤ tk b false x.f2 (LF 1) (N true f k) ∧ tk b false x.f2 (LF 1) (N true f k) ≤ 300000 := ⟨htb.1, by omega⟩
                        have hyl : b = true → 0 ≤ LF 1 - tk b false x.f2 (LF 1) (N true f k) := fun h => by have := htb.2.1 h; omega
                        clear htb hmc hnb
                        by_cases hin : ID k = true
                        · have HT2 : Aside0 (tk b false x.f2 (LF 1) (N true f (k + 1)) = tk b false x.f2 (LF 1) (N true f k) + tk1 b false x.f2 (LF 1 - tk b false x.f2 (LF 1) (N true f k))) := ⟨by rw [hns, if_pos hin]; exact hts⟩
                          rw [hin] at hid
                          have HP := Aside0.mk hid
                          clear hns hts hin hid
                          generalize tk b false x.f2 (LF 1) (N true f k) = y at *
                          generalize LF 1 = l at *
                          generalize SM 1 = v at *
                          obtain ⟨p1, p2⟩ := rch_tt HP.out
                          cases b
                          · have HE : Aside0 (tk1 false false x.f2 (l - y) = 0) := ⟨rfl⟩
                            have w4 : IntKind.i64.wrap (l - y - 0) = l - y - 0 := Go.IntWalk.i64_in _ (by omega)
                            have w5' : IntKind.i64.wrap (v + y + 0) = v + y + 0 := Go.IntWalk.i64_in _ (by omega)
                            go_wp2
                            go_roundg (t - (k + 1))
                            case measure => have := HK.out; have := HKT.out; omega
                            case rel => exact ⟨k + 1, by rw [HT2.out, HE.out]; exact ret_int' (by omega), by rw [HT2.out, HE.out]; exact ret_int' (by omega), by go_num, ⟨by omega, by have := HKT.out; omega, rfl⟩, rfl⟩
                          · have hl0 := hyl rfl
                            by_cases hmin : l - y ≤ x.f2
                            · have HE : Aside0 (tk1 true false x.f2 (l - y) = l - y) := ⟨by unfold tk1 mn; rw [if_pos rfl]; split <;> omega⟩
                              have w4 : IntKind.i64.wrap (l - y - (l - y)) = l - y - (l - y) := Go.IntWalk.i64_in _ (by omega)
                              have w5' : IntKind.i64.wrap (v + y + (l - y)) = v + y + (l - y) := Go.IntWalk.i64_in _ (by omega)
                              go_wp2
                              go_roundg (t - (k + 1))
                              case measure => have := HK.out; have := HKT.out; omega
                              case rel => exact ⟨k + 1, by rw [HT2.out, HE.out]; exact ret_int' (by omega), by rw [HT2.out, HE.out]; exact ret_int' (by omega), by go_num, ⟨by omega, by have := HKT.out; omega, rfl⟩, rfl⟩
                            · have HE : Aside0 (tk1 true false x.f2 (l - y) = x.f2) := ⟨by unfold tk1 mn; rw [if_pos rfl, if_pos (by omega)]⟩
                              have w4 : IntKind.i64.wrap (l - y - x.f2) = l - y - x.f2 := Go.IntWalk.i64_in _ (by omega)
                              have w5' : IntKind.i64.wrap (v + y + x.f2) = v + y + x.f2 := Go.IntWalk.i64_in _ (by omega)
                              go_wp2
                              go_roundg (t - (k + 1))
                              case measure => have := HK.out; have := HKT.out; omega
                              case rel => exact ⟨k + 1, by rw [HT2.out, HE.out]; exact ret_int' (by omega), by rw [HT2.out, HE.out]; exact ret_int' (by omega), by go_num, ⟨by omega, by have := HKT.out; omega, rfl⟩, rfl⟩
                        · have HT2 : Aside0 (tk b false x.f2 (LF 1) (N true f (k + 1)) = tk b false x.f2 (LF 1) (N true f k)) := ⟨by rw [hns, if_neg hin, Int.add_zero]⟩
                          have hin2 : ID k = false := rch_nt hin
                          rw [hin2] at hid
                          have HP := Aside0.mk hid
                          clear hns hts hin hin2 hid
                          generalize tk b false x.f2 (LF 1) (N true f k) = y at *
                          generalize LF 1 = l at *
                          generalize SM 1 = v at *
                          by_cases p0 : d.f0 ≤ x.f4.f0 + (k : Int)
                          · have p1 := decide_eq_true p0
                            have p2 : decide (x.f4.f0 + (k : Int) < d.f1) = false := rch_tf HP.out p1
                            clear p0 HP
                            go_wp2
                            go_roundg (t - (k + 1))
                            case measure => have := HK.out; have := HKT.out; omega
                            case rel => exact ⟨k + 1, by rw [HT2.out], by rw [HT2.out], by go_num, ⟨by omega, by have := HKT.out; omega, rfl⟩, rfl⟩
                          · have p1 := decide_eq_false p0
                            clear p0 HP
                            go_wp2
                            go_roundg (t - (k + 1))
                            case measure => have := HK.out; have := HKT.out; omega
                            case rel => exact ⟨k + 1, by rw [HT2.out], by rw [HT2.out], by go_num, ⟨by omega, by have := HKT.out; omega, rfl⟩, rfl⟩
                      · obtain rfl : k = t := by omega
                        have g1 : decide ((k : Int) < (k : Int)) = false := decide_eq_false (by omega)
                        have g2 : decide (k < k) = false := decide_eq_false (by omega)
                        go_wp2
                        go_roundg (2 - 2)
                        case measure => have := HI.out; omega
                        case rel => exact ⟨2, by rw [HSM1.out], by rw [HLF1.out], by go_num, ⟨by omega, rfl⟩, rfl⟩
                  · have g3 : decide ((2 : Int) < 2) = false := by decide
                    go_wp2
                    go_meet
                    case rel => exact ⟨by rw [hL.out], rfl⟩
              · simp only [Bool.not_true] at e1
                go_wp2
                go_loopg [7, 10, 70] 2 (fun gk v7 v10 v70 w' => ∃ i : Nat, v7 = .int .i64 (SM i) ∧ v10 = .int .i64 (LF i) ∧ v70 = .int .i64 i ∧ Aside0 (i ≤ 2 ∧ gk = 2 - i) ∧ w' = w5)
                case atStart => exact ⟨0, by rw [HSM0.out], by rw [HLF0.out], rfl, ⟨by omega, rfl⟩, rfl⟩
                case round =>
                  obtain ⟨i, rfl, rfl, rfl, HI, rfl⟩ := hrel
                  have hi3 : i = 0 ∨ i = 1 ∨ i = 2 := by have := HI.out; omega
                  rcases hi3 with rfl | rfl | rfl
                  · have HLi := HLB.out 0 (by omega)
                    have HSi := HSB.out 0 (by omega)
                    have HSM1 : Aside0 (SM 1 = SM 0 + tk b true x.f2 (LF 0) (N true f t)) := ⟨by have := HSM.out 0; simpa [ins] using this⟩
                    have HLF1 : Aside0 (LF 1 = LF 0 - tk b true x.f2 (LF 0) (N true f t)) := ⟨by have := HLF.out 0; simpa [ins] using this⟩
                    have g3 : decide ((0 : Int) < 2) = true := by decide
                    go_wp2
                    go_loopg [7, 10, 15] (t - f) (fun gk v7 v10 v15 w' => ∃ k : Nat, v7 = .int .i64 (SM 0 + tk b true x.f2 (LF 0) (N true f k)) ∧ v10 = .int .i64 (LF 0 - tk b true x.f2 (LF 0) (N true f k)) ∧ v15 = .int .i64 k ∧ Aside0 (f ≤ k ∧ k ≤ t ∧ gk = t - k) ∧ w' = wr)
                    case atStart => exact ⟨f, by rw [HN0.out, tk_zero b true HLi.1, Int.add_zero], by rw [HN0.out, tk_zero b true HLi.1, Int.sub_zero], rfl, ⟨Nat.le_refl _, Nat.le_of_lt hft, rfl⟩, rfl⟩
                    case round =>
                      obtain ⟨k, rfl, rfl, rfl, HK, rfl⟩ := hrel
                      have hk0 := HK.out.1
                      have hk1 := HK.out.2.1
                      by_cases hkt : k < t
                      · have g1 : decide ((k : Int) < (t : Int)) = true := decide_eq_true (by omega)
                        have g2 : decide (k < t) = true := decide_eq_true hkt
                        have w1 : IntKind.i64.wrap (x.f4.f0 + (k : Int)) = x.f4.f0 + (k : Int) := Go.IntWalk.i64_in _ (by omega)
                        have w2 : IntKind.i64.wrap ((k : Int) + 1) = (k : Int) + 1 := Go.IntWalk.i64_in _ (by omega)
                        have hnb := HNb.out true f k hk0
                        have hns := HN1.out true f k
                        have htb := tk_bd b true (M := x.f2) (L := LF 0) (c := N true f k) (by omega) HLi.1 hnb.1
                        have hts := tk_succ b true (M := x.f2) (L := LF 0) (c := N true f k) (by omega) HLi.1 hnb.1
                        have hmc : x.f2 * N true f k ≤ 300000 := Int.le_trans (Int.mul_le_mul_of_nonneg_left (show N true f k ≤ 30 by omega) (show 0 ≤ x.f2 by omega)) (by omega)
                        have hid := HID.out k
                        have HKT := Aside0.mk hkt
                        clear hkt
                        have hy : 0 ≤ tk b true x.f2 (LF 0) (N true f k) ∧ tk b true x.f2 (LF 0) (N true f k) ≤ 300000 := ⟨htb.1, by omega⟩
                        have hyl : b = true → 0 ≤ LF 0 - tk b true x.f2 (LF 0) (N true f k) := fun h => by have := htb.2.1 h; omega
                        clear htb hmc hnb
                        by_cases hin : ID k = true
                        · have HT2 : Aside0 (tk b true x.f2 (LF 0) (N true f (k + 1)) = tk b true x.f2 (LF 0) (N true f k) + tk1 b true x.f2 (LF 0 - tk b true x.f2 (LF 0) (N true f k))) := ⟨by rw [hns, if_pos hin]; exact hts⟩
                          rw [hin] at hid
                          have HP := Aside0.mk hid
                          clear hns hts hin hid
                          generalize tk b true x.f2 (LF 0) (N true f k) = y at *
                          generalize LF 0 = l at *
                          generalize SM 0 = v at *
                          obtain ⟨p1, p2⟩ := rch_tt HP.out
                          cases b
                          · have HE : Aside0 (tk1 false true x.f2 (l - y) = x.f2) := ⟨rfl⟩
                            have w4 : IntKind.i64.wrap (l - y - x.f2) = l - y - x.f2 := Go.IntWalk.i64_in _ (by omega)
                            have w5' : IntKind.i64.wrap (v + y + x.f2) = v + y + x.f2 := Go.IntWalk.i64_in _ (by omega)
                            go_wp2
                            go_roundg (t - (k + 1))
                            case measure => have := HK.out; have := HKT.out; omega
                            case rel => exact ⟨k + 1, by rw [HT2.out, HE.out]; exact ret_int' (by omega), by rw [HT2.out, HE.out]; exact ret_int' (by omega), by go_num, ⟨by omega, by have := HKT.out; omega, rfl⟩, rfl⟩
                          · have hl0 := hyl rfl
                            by_cases hmin : l - y ≤ x.f2
                            · have HE : Aside0 (tk1 true true x.f2 (l - y) = l - y) := ⟨by unfold tk1 mn; rw [if_pos rfl]; split <;> omega⟩
                              have w4 : IntKind.i64.wrap (l - y - (l - y)) = l - y - (l - y) := Go.IntWalk.i64_in _ (by omega)
                              have w5' : IntKind.i64.wrap (v + y + (l - y)) = v + y + (l - y) := Go.IntWalk.i64_in _ (by omega)
                              go_wp2
                              go_roundg (t - (k + 1))
                              case measure => have := HK.out; have := HKT.out; omega
                              case rel => exact ⟨k + 1, by rw [HT2.out, HE.out]; exact ret_int' (by omega), by rw [HT2.out, HE.out]; exact ret_int' (by omega), by go_num, ⟨by omega, by have := HKT.out; omega, rfl⟩, rfl⟩
                            · have HE : Aside0 (tk1 true true x.f2 (l - y) = x.f2) := ⟨by unfold tk1 mn; rw [if_pos rfl, if_pos (by omega)]⟩
                              have w4 : IntKind.i64.wrap (l - y - x.f2) = l - y - x.f2 := Go.IntWalk.i64_in _ (by omega)
                              have w5' : IntKind.i64.wrap (v + y + x.f2) = v + y + x.f2 := Go.IntWalk.i64_in _ (by omega)
                              go_wp2
                              go_roundg (t - (k + 1))
                              case measure => have := HK.out; have := HKT.out; omega
                              case rel => exact ⟨k + 1, by rw [HT2.out, HE.out]; exact ret_int' (by omega), by rw [HT2.out, HE.out]; exact ret_int' (by omega), by go_num, ⟨by omega, by have := HKT.out; omega, rfl⟩, rfl⟩
                        · have HT2 : Aside0 (tk b true x.f2 (LF 0) (N true f (k + 1)) = tk b true x.f2 (LF 0) (N true f k)) := ⟨by rw [hns, if_neg hin, Int.add_zero]⟩
                          have hin2 : ID k = false := rch_nt hin
                          rw [hin2] at hid
                          have HP := Aside0.mk hid
                          clear hns hts hin hin2 hid
                          generalize tk b true x.f2 (LF 0) (N true f k) = y at *
                          generalize LF 0 = l at *
                          generalize SM 0 = v at *
                          by_cases p0 : d.f0 ≤ x.f4.f0 + (k : Int)
                          · have p1 := decide_eq_true p0
                            have p2 : decide (x.f4.f0 + (k : Int) < d.f1) = false := rch_tf HP.out p1
                            clear p0 HP
                            go_wp2
                            go_roundg (t - (k + 1))
                            case measure => have := HK.out; have := HKT.out; omega
                            case rel => exact ⟨k + 1, by rw [HT2.out], by rw [HT2.out], by go_num, ⟨by omega, by have := HKT.out; omega, rfl⟩, rfl⟩
                          · have p1 := decide_eq_false p0
                            clear p0 HP
                            go_wp2
                            go_roundg (t - (k + 1))
                            case measure => have := HK.out; have := HKT.out; omega
                            case rel => exact ⟨k + 1, by rw [HT2.out], by rw [HT2.out], by go_num, ⟨by omega, by have := HKT.out; omega, rfl⟩, rfl⟩
                      · obtain rfl : k = t := by omega
                        have g1 : decide ((k : Int) < (k : Int)) = false := decide_eq_false (by omega)
                        have g2 : decide (k < k) = false := decide_eq_false (by omega)
                        go_wp2
                        go_roundg (2 - 1)
                        case measure => have := HI.out; omega
                        case rel => exact ⟨1, by rw [HSM1.out], by rw [HLF1.out], by go_num, ⟨by omega, rfl⟩, rfl⟩
                  · have HLi := HLB.out 1 (by omega)
                    have HSi := HSB.out 1 (by omega)
                    have HSM1 : Aside0 (SM 2 = SM 1) := ⟨by have := HSM.out 1; simpa [ins] using this⟩
                    have HLF1 : Aside0 (LF 2 = LF 1 - tk b true x.f2 (LF 1) (N false f t)) := ⟨by have := HLF.out 1; simpa [ins] using this⟩
                    have g3 : decide ((1 : Int) < 2) = true := by decide
                    go_wp2
                    go_loopg [7, 10, 15] (t - f) (fun gk v7 v10 v15 w' => ∃ k : Nat, v7 = .int .i64 (SM 1) ∧ v10 = .int .i64 (LF 1 - tk b true x.f2 (LF 1) (N false f k)) ∧ v15 = .int .i64 k ∧ Aside0 (f ≤ k ∧ k ≤ t ∧ gk = t - k) ∧ w' = wr)
                    case atStart => exact ⟨f, rfl, by rw [HN0.out, tk_zero b true HLi.1, Int.sub_zero], rfl, ⟨Nat.le_refl _, Nat.le_of_lt hft, rfl⟩, rfl⟩
                    case round =>
                      obtain ⟨k, rfl, rfl, rfl, HK, rfl⟩ := hrel
                      have hk0 := HK.out.1
                      have hk1 := HK.out.2.1
                      by_cases hkt : k < t
                      · have g1 : decide ((k : Int) < (t : Int)) = true := decide_eq_true (by omega)
                        have g2 : decide (k < t) = true := decide_eq_true hkt
                        have w1 : IntKind.i64.wrap (x.f4.f0 + (k : Int)) = x.f4.f0 + (k : Int) := Go.IntWalk.i64_in _ (by omega)
                        have w2 : IntKind.i64.wrap ((k : Int) + 1) = (k : Int) + 1 := Go.IntWalk.i64_in _ (by omega)
                        have hnb := HNb.out false f k hk0
                        have hns := HN1.out false f k
                        have htb := tk_bd b true (M := x.f2) (L := LF 1) (c := N false f k) (by omega) HLi.1 hnb.1
                        have hts := tk_succ b true (M := x.f2) (L := LF 1) (c := N false f k) (by omega) HLi.1 hnb.1
                        have hmc : x.f2 * N false f k ≤ 300000 := Int.le_trans (Int.mul_le_mul_of_nonneg_left (show N false f k ≤ 30 by omega) (show 0 ≤ x.f2 by omega)) (by omega)
                        have hid := HID.out k
                        have HKT := Aside0.mk hkt
                        clear hkt
                        have hy : 0 ≤ tk b true x.f2 (LF 1) (N false f k) ∧ tk b true x.f2 (LF 1) (N false f k) ≤ 300000 := ⟨htb.1, by omega⟩
                        have hyl : b = true → 0 ≤ LF 1 - tk b true x.f2 (LF 1) (N false f k) := fun h => by have := htb.2.1 h; omega
                        clear htb hmc hnb
                        by_cases hin : ID k = false
                        · have HT2 : Aside0 (tk b true x.f2 (LF 1) (N false f (k + 1)) = tk b true x.f2 (LF 1) (N false f k) + tk1 b true x.f2 (LF 1 - tk b true x.f2 (LF 1) (N false f k))) := ⟨by rw [hns, if_pos hin]; exact hts⟩
                          rw [hin] at hid
                          have HP := Aside0.mk hid
                          clear hns hts hin hid
                          generalize tk b true x.f2 (LF 1) (N false f k) = y at *
                          generalize LF 1 = l at *
                          generalize SM 1 = v at *
                          by_cases p0 : d.f0 ≤ x.f4.f0 + (k : Int)
                          · have p1 := decide_eq_true p0
                            have p2 : decide (x.f4.f0 + (k : Int) < d.f1) = false := rch_tf HP.out p1
                            clear p0 HP
                            cases b
                            · have HE : Aside0 (tk1 false true x.f2 (l - y) = x.f2) := ⟨rfl⟩
                              have w4 : IntKind.i64.wrap (l - y - x.f2) = l - y - x.f2 := Go.IntWalk.i64_in _ (by omega)
                              go_wp2
                              go_roundg (t - (k + 1))
                              case measure => have := HK.out; have := HKT.out; omega
                              case rel => exact ⟨k + 1, rfl, by rw [HT2.out, HE.out]; exact ret_int' (by omega), by go_num, ⟨by omega, by have := HKT.out; omega, rfl⟩, rfl⟩
                            · have hl0 := hyl rfl
                              by_cases hmin : l - y ≤ x.f2
                              · have HE : Aside0 (tk1 true true x.f2 (l - y) = l - y) := ⟨by unfold tk1 mn; rw [if_pos rfl]; split <;> omega⟩
                                have w4 : IntKind.i64.wrap (l - y - (l - y)) = l - y - (l - y) := Go.IntWalk.i64_in _ (by omega)
                                go_wp2
                                go_roundg (t - (k + 1))
                                case measure => have := HK.out; have := HKT.out; omega
                                case rel => exact ⟨k + 1, rfl, by rw [HT2.out, HE.out]; exact ret_int' (by omega), by go_num, ⟨by omega, by have := HKT.out; omega, rfl⟩, rfl⟩
                              · have HE : Aside0 (tk1 true true x.f2 (l - y) = x.f2) := ⟨by unfold tk1 mn; rw [if_pos rfl, if_pos (by omega)]⟩
                                have w4 : IntKind.i64.wrap (l - y - x.f2) = l - y - x.f2 := Go.IntWalk.i64_in _ (by omega)
                                go_wp2
                                go_roundg (t - (k + 1))
                                case measure => have := HK.out; have := HKT.out; omega
                                case rel => exact ⟨k + 1, rfl, by rw [HT2.out, HE.out]; exact ret_int' (by omega), by go_num, ⟨by omega, by have := HKT.out; omega, rfl⟩, rfl⟩
                          · have p1 := decide_eq_false p0
                            clear p0 HP
                            cases b
                            · have HE : Aside0 (tk1 false true x.f2 (l - y) = x.f2) := ⟨rfl⟩
                              have w4 : IntKind.i64.wrap (l - y - x.f2) = l - y - x.f2 := Go.IntWalk.i64_in _ (by omega)
                              go_wp2
                              go_roundg (t - (k + 1))
                              case measure => have := HK.out; have := HKT.out; omega
                              case rel => exact ⟨k + 1, rfl, by rw [HT2.out, HE.out]; exact ret_int' (by omega), by go_num, ⟨by omega, by have := HKT.out; omega, rfl⟩, rfl⟩
                            · have hl0 := hyl rfl
                              by_cases hmin : l - y ≤ x.f2
                              · have HE : Aside0 (tk1 true true x.f2 (l - y) = l - y) := ⟨by unfold tk1 mn; rw [if_pos rfl]; split <;> omega⟩
                                have w4 : IntKind.i64.wrap (l - y - (l - y)) = l - y - (l - y) := Go.IntWalk.i64_in _ (by omega)
                                go_wp2
                                go_roundg (t - (k + 1))
                                case measure => have := HK.out; have := HKT.out; omega
                                case rel => exact ⟨k + 1, rfl, by rw [HT2.out, HE.out]; exact ret_int' (by omega), by go_num, ⟨by omega, by have := HKT.out; omega, rfl⟩, rfl⟩
                              · have HE : Aside0 (tk1 true true x.f2 (l - y) = x.f2) := ⟨by unfold tk1 mn; rw [if_pos rfl, if_pos (by omega)]⟩
                                have w4 : IntKind.i64.wrap (l - y - x.f2) = l - y - x.f2 := Go.IntWalk.i64_in _ (by omega)
                                go_wp2
                                go_roundg (t - (k + 1))
                                case measure => have := HK.out; have := HKT.out; omega
                                case rel => exact ⟨k + 1, rfl, by rw [HT2.out, HE.out]; exact ret_int' (by omega), by go_num, ⟨by omega, by have := HKT.out; omega, rfl⟩, rfl⟩
                        · have HT2 : Aside0 (tk b true x.f2 (LF 1) (N false f (k + 1)) = tk b true x.f2 (LF 1) (N false f k)) := ⟨by rw [hns, if_neg hin, Int.add_zero]⟩
                          have hin2 : ID k = true := rch_nf hin
                          rw [hin2] at hid
                          have HP := Aside0.mk hid
                          clear hns hts hin hin2 hid
                          generalize tk b true x.f2 (LF 1) (N false f k) = y at *
                          generalize LF 1 = l at *
                          generalize SM 1 = v at *
                          obtain ⟨p1, p2⟩ := rch_tt HP.out
                          go_wp2
                          go_roundg (t - (k + 1))
                          case measure => have := HK.out; have := HKT.out; omega
                          case rel => exact ⟨k + 1, rfl, by rw [HT2.out], by go_num, ⟨by omega, by have := HKT.out; omega, rfl⟩, rfl⟩
                      · obtain rfl : k = t := by omega
                        have g1 : decide ((k : Int) < (k : Int)) = false := decide_eq_false (by omega)
                        have g2 : decide (k < k) = false := decide_eq_false (by omega)
                        go_wp2
                        go_roundg (2 - 2)
                        case measure => have := HI.out; omega
                        case rel => exact ⟨2, by rw [HSM1.out], by rw [HLF1.out], by go_num, ⟨by omega, rfl⟩, rfl⟩
                  · have g3 : decide ((2 : Int) < 2) = false := by decide
                    go_wp2
                    go_meet
                    case rel => exact ⟨by rw [hL.out], rfl⟩
            case rest =>
              obtain ⟨rfl, rfl⟩ := hcut
              go_wp2
              go_roundg (sh.length - t)
              case measure => have := HF.out; omega
              case rel => exact ⟨t, rfl, rfl, ⟨htn, rfl, fun h => .inl (HTo.out.2.2.2 h), by rw [hL.out]; exact HRb.out⟩, ⟨BH5.out, BD5.out, HB5.out⟩⟩
    · obtain rfl : f = sh.length := by omega
      have c2 : wr.cell? ⟨w.heap.size, 2, none⟩ = some (.int .i64 x.f2) := (blk_cell HW.out.1 2).trans rfl
      have c4 : wr.cell? ⟨w.heap.size, 4, none⟩ = some (.int .i64 x.f4.f0) := (blk_cell HW.out.1 4).trans rfl
      have c6 : wr.cell? ⟨w.heap.size, 6, none⟩ = some (.slice A5 sh.length k5) := (blk_cell HW.out.1 6).trans rfl
      have c9 : wr.cell? ⟨w.heap.size, 9, none⟩ = some (.slice A8 (sh.length + 1) k8) := (blk_cell HW.out.1 9).trans rfl
      have d0 : wr.cell? ⟨w.heap.size + 1, 0, none⟩ = some (.int .i64 d.f0) := (blk_cell HW.out.2.1 0).trans rfl
      have d1 : wr.cell? ⟨w.heap.size + 1, 1, none⟩ = some (.int .i64 d.f1) := (blk_cell HW.out.2.1 1).trans rfl
      have g1 : decide ((sh.length : Int) < (sh.length : Int)) = false := decide_eq_false (by omega)
      have g2 : decide (sh.length < sh.length) = false := decide_eq_false (by omega)
      go_wp2
      go_ret
      exact ⟨rfl, HW.out.2.2⟩
end Go.Proofs.YtknfkibnocfjiaaDoor.P
