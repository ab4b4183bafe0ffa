/- The contract of polynomial.at: the value of a polynomial at a point, modulo Q. -/
import Derived.Test.YtfkeelccnomjkaaDoorGFold
namespace Go.Proofs.YtfkeelccnomjkaaDoor.P
open Go.RowKit Go.Shelf Go.Proofs.YtfkeelccnomjkaaDoorW.PrintWords Go.Proofs.YtfkeelccnomjkaaDoorW.PrintLast Go.Proofs.YtfkeelccnomjkaaDoorW.PrintMore Go.Proofs.YtfkeelccnomjkaaDoor.M Go.Proofs.YtfkeelccnomjkaaDoor.QF
set_option linter.unusedVariables false
set_option linter.unusedSimpArgs false
attribute [local go_sem] Oper.semAt_some
/-- Horner's way, the coefficients as Backward yields them. -/
def horF (l : List Int) (x : Int) (p : List Nat) : Int := p.foldl (fun o k => (o * x % 1073741789 + (backAt l k).2) % 1073741789) 0
theorem horF_snoc (l : List Int) (x : Int) (p : List Nat) (k : Nat) : horF l x (p ++ [k]) = (horF l x p * x % 1073741789 + (backAt l k).2) % 1073741789 := by unfold horF; rw [List.foldl_append]; rfl
theorem rs_horF (l : List Int) (x : Int) (p : List Nat) : rs (horF l x p) := by
  unfold horF
  have : ∀ (p : List Nat) (a : Int), rs a → rs (p.foldl (fun o k => (o * x % 1073741789 + (backAt l k).2) % 1073741789) a) := by
    intro p
    induction p with
    | nil => intro a ha; exact ha
    | cons t p ih => intro a ha; exact ih _ (rs_mod _)
  exact this p 0 ⟨by decide, by decide⟩
theorem rd_drop_cons {l : List Int} {i : Nat} (h : i < l.length) : l.drop i = rd l (i : Int) :: l.drop (i + 1) := by
  have e : rd l (i : Int) = l[i] := by unfold rd; rw [Int.toNat_natCast, List.getD_eq_getElem?_getD, List.getElem?_eq_getElem h]; rfl
  rw [e, List.drop_eq_getElem_cons h]
theorem horF_upto (l : List Int) (x : Int) : ∀ k, k ≤ l.length → Cg 1073741789 (horF l x (List.range k)) (ev (l.drop (l.length - k)) x)
  | 0, _ => by
    rw [Nat.sub_zero, List.drop_length]; exact Cg.refl _ _
  | k + 1, h => by
    have ih := horF_upto l x k (by omega)
    rw [range_snoc, horF_snoc]
    have e1 : l.length - (k + 1) = l.length - 1 - k := by omega
    have e2 : l.length - k = l.length - (k + 1) + 1 := by omega
    rw [rd_drop_cons (i := l.length - (k + 1)) (by omega), ← e2]
    show Cg 1073741789 _ (rd l ((l.length - (k + 1) : Nat) : Int) + x * ev (l.drop (l.length - k)) x)
    have h2 : (backAt l k).2 = rd l ((l.length - (k + 1) : Nat) : Int) := by rw [e1]; rfl
    rw [h2]
    refine (cgm _).trans ((((cgm _).trans (ih.mul (Cg.refl _ x))).add (Cg.refl _ _)).trans (Cg.of_eq ?_))
    rw [Int.mul_comm, Int.add_comm]
/-- The value of a polynomial at a point. -/
@[irreducible] def atF (l : List Int) (x : Int) : Int := ev l x % 1073741789
theorem atF_rs (l : List Int) (x : Int) : rs (atF l x) := by unfold atF; exact rs_mod _
theorem atF_cg (l : List Int) (x : Int) : Cg 1073741789 (atF l x) (ev l x) := by unfold atF; exact cgm _
theorem horF_back (l : List Int) (x : Int) : horF l x (List.range l.length) = atF l x := by
  unfold atF
  refine rs_cg (rs_horF _ _ _) ?_
  have h := horF_upto l x l.length (Nat.le_refl _)
  rwa [Nat.sub_self, List.drop_zero] at h
theorem backAt_mem {l : List Int} (h : 0 < l.length) (k : Nat) : (backAt l k).2 ∈ l := rd_mem (by omega)
theorem bodyOne (W : World) (g i : Nat) (v : Value) : ∀ m k, k ≠ g → k < W.heap.size → ((W.drewN m).setCell ⟨g, i, none⟩ v).heap[k]? = W.heap[k]? := fun m k hk hlt =>
  (Below.heap_setCell (W.drewN m) ⟨g, i, none⟩ v k hk).trans ((pw_below_drewN (Below.refl W.heap.size W) m).block k hlt)
set_option maxHeartbeats 16000000 in
set_option maxRecDepth 100000 in
theorem at_calls (A0 : Option Addr) (c0 : Nat) (l : List Int) (x r : Int) (w : World) (hr0 : Kd.C (Kd.int .i64) w A0 l.length l) (hc0 : l.length ≤ c0) (hx : rs x) (hl : ∀ y ∈ l, rs y) (he : atF l x = r) :
    Calls Tryd.prog 32 #[.slice A0 l.length c0, .int .i64 x] w fun e w' => e = .returned (.int .i64 r) ∧ Below w.heap.size w w' := by
  have HR0 := Aside0.mk hr0
  have HC0 := Aside0.mk hc0
  have HX := Aside0.mk hx
  have HL := Aside0.mk hl
  have HE := Aside0.mk he
  clear hr0 hc0 hx hl he
  refine (callsIn_wide (n := 6)).1 ?_
  refine callsIn_of_wp_marks Tryd.func32 rfl trivial ?_ rfl
  simp only [Tryd.ntmps32, List.size_toArray, List.length_cons, List.length_nil, Nat.reduceAdd, Nat.reduceSub, Array.replicate_succ, Array.replicate_zero, List.push_toArray, List.append_toArray, List.nil_append, List.cons_append]
  have HB := Aside0.mk (below_alloc (Below.refl w.heap.size w) (.cells #[.int .i64 x] 66))
  have BX := Aside0.mk (blk_new w (.cells #[.int .i64 x] 66))
  gi_wp2_with (first
    | (refine ⟨trivial, ?_⟩; gi_at_call 52; (with_reducible refine (callsIn_wide.2 (backward_calls A0 l.length c0 _)).mono ?_); rintro e w3 ⟨rfl, rfl⟩))
  have BO0 := Aside0.mk (blk_alloc (blk_p1 w (.cells #[.int .i64 x] 66) (.cells #[.int .i64 0] 66)) (.cells #[.slice A0 l.length c0] 68))
  have BS0 := Aside0.mk (blk_p2 w (.cells #[.int .i64 x] 66) (.cells #[.int .i64 0] 66) (.cells #[.slice A0 l.length c0] 68))
  have BX0 := Aside0.mk (blk_alloc (blk_alloc BX.out (.cells #[.int .i64 0] 66)) (.cells #[.slice A0 l.length c0] 68))
  have HB0 := Aside0.mk (below_alloc (below_alloc HB.out (.cells #[.int .i64 0] 66)) (.cells #[.slice A0 l.length c0] 68))
  have hs0 : (((w.alloc (.cells #[.int .i64 x] 66)).alloc (.cells #[.int .i64 0] 66)).alloc (.cells #[.slice A0 l.length c0] 68)).heap.size = w.heap.size + 3 := by simp
  have HBx : Aside0 (Below (w.heap.size + 1) (w.alloc (.cells #[.int .i64 x] 66)) (((w.alloc (.cells #[.int .i64 x] 66)).alloc (.cells #[.int .i64 0] 66)).alloc (.cells #[.slice A0 l.length c0] 68))) := ⟨by
    have h := below_alloc (below_alloc (Below.refl (w.alloc (.cells #[.int .i64 x] 66)).heap.size (w.alloc (.cells #[.int .i64 x] 66))) (.cells #[.int .i64 0] 66)) (.cells #[.slice A0 l.length c0] 68)
    rwa [World.size_alloc] at h⟩
  have hs1 : (w.alloc (.cells #[.int .i64 x] 66)).heap.size = w.heap.size + 1 := by simp
  have HR1 : Aside0 (Kd.C (Kd.int .i64) (w.alloc (.cells #[.int .i64 x] 66)) A0 l.length l) := ⟨Kd.C_alloc HR0.out _⟩
  obtain ⟨W0, hW0⟩ : ∃ W0, ((w.alloc (.cells #[.int .i64 x] 66)).alloc (.cells #[.int .i64 0] 66)).alloc (.cells #[.slice A0 l.length c0] 68) = W0 := ⟨_, rfl⟩
  rw [hW0] at BO0 BS0 BX0 HB0 HBx hs0 ⊢
  clear hW0
  generalize w.alloc (.cells #[.int .i64 x] 66) = wx at *
  have HSX := Aside0.mk hs1
  clear hs1
  refine wpIn_rangeFunc_ownH rfl (by decide) (gf := 63) (lb := #[.pointer (some ⟨w.heap.size + 1 + 1, 0, none⟩)]) rfl trivial (enters_of Tryd.func63 (by kernel_rfl) rfl)
    (encs := encB l) (Kp := KeepP (w.heap.size + 1)) (S := fun ys => ys = List.range l.length) (Sp := fun pre => pre <+: List.range l.length) (N := l.length) (w0 := W0)
    (fun lp J Jx W hW hJ hJx hY h0 => by
      have hsz := HSX.out
      have h := back1_in l A0 c0 wx HR1.out 5 lp (by decide) J Jx W hJ (by rw [hsz]; exact hY) (by rw [hsz]; exact HBx.out.trans (hW.mono (by omega))) (by have := hW.size; omega) (by rw [hsz]; exact blk_below BS0.out hW) h0
      rw [hsz] at h; exact h)
    keepP_t (keepP_b (by omega)) (Below.refl _ _) (fun _ => rfl)
    (fun pre W => W.heap[w.heap.size + 1]? = some (.cells #[.int .i64 (horF l x pre)] 66 (0, 0)) ∧ W.heap[w.heap.size]? = some (.cells #[.int .i64 x] 66 (0, 0)) ∧ Below w.heap.size w W)
    (fun _ _ _ => False)
    (OwnFrom.and (blkOwn _ _ _ (fun pre => #[.int .i64 (horF l x pre)])) (OwnFrom.and (blkOwn _ _ _ (fun _ => _)) (ownFrom_below (Nat.le_refl _) (by omega))))
    (fun _ _ _ _ _ hs _ _ => hs)
    ⟨BO0.out, BX0.out, HB0.out⟩
    (fun k a' W => a' = { tmps := #[.slice A0 l.length c0, .int .i64 x, undef, .pointer (some ⟨w.heap.size, 0, none⟩), .int .i64 0, .pointer (some ⟨w.heap.size + 1, 0, none⟩), undef, .int .i64 (backAt l k).2, .slice A0 l.length c0, .func (.func 63) #[] #[.pointer (some ⟨w.heap.size + 1 + 1, 0, none⟩)], .int .i64 (backAt l k).1, .int .i64 (backAt l k).2, undef, undef, undef, undef, undef, undef], defers := [] })
    (fun x a' _ X Y row hs hg hr => hs)
    ?assign ?body ?done ?stop
  case assign =>
    rintro lp pre k W K ⟨hI1, hI2, hI3⟩ hK
    have J1 := Aside0.mk hI1
    have J2 := Aside0.mk hI2
    have J3 := Aside0.mk hI3
    clear hI1 hI2 hI3
    simp only [encB]
    gi_wp2
    exact hK _ _ ((KeepsOthers.refl _).from _) (keepP_refl _ _) ⟨J1.out, J2.out, J3.out⟩ rfl
  case body =>
    rintro lp pre k a' W hl2 ⟨r0, hr0⟩ ⟨hI1, hI2, hI3⟩ rfl hlt
    have J1 := Aside0.mk hI1
    have J2 := Aside0.mk hI2
    have J3 := Aside0.mk hI3
    have HRO := Aside0.mk hr0
    have z0 : W.cell? ⟨w.heap.size + 1, 0, none⟩ = some (.int .i64 (horF l x pre)) := (blk_cell hI1 0).trans rfl
    have z1 : W.cell? ⟨w.heap.size, 0, none⟩ = some (.int .i64 x) := (blk_cell hI2 0).trans rfl
    have zf := blk_frozen hI1 0
    have HS := Aside0.mk (horF_snoc l x pre k)
    have HY := Aside0.mk (HL.out _ (backAt_mem (by omega) k))
    have HH := Aside0.mk (rs_horF l x pre)
    clear hI1 hI2 hI3 hr0
    generalize (backAt l k).2 = y at *
    generalize (backAt l k).1 = ix at *
    generalize horF l x pre = h at *
    gi_wp2_with (first
      | (refine ⟨trivial, ?_⟩; gi_at_call 45; (with_reducible refine (CallsIn.inRound lp (callsIn_wide.2 (times_calls h x _ HH.out HX.out rfl _))).mono ?_); rintro e w5 ⟨rfl, ⟨n1, rfl⟩⟩)
      | (refine ⟨trivial, ?_⟩; gi_at_call 40; (with_reducible refine (CallsIn.inRound lp (callsIn_wide.2 (plus_calls _ y _ (rs_mod (h * x)) HY.out rfl _))).mono ?_); rintro e w5 ⟨rfl, ⟨n1, rfl⟩⟩))
    have HE5 := Aside0.mk (bodyOne W (w.heap.size + 1) 0 (.int .i64 ((h * x + y) % 1073741789)))
    have hgW := blk_lt J1.out
    have hJ1 := J1.out
    refine ⟨⟨?_, fun k o hk ho hc => ?_⟩, ⟨?_, fun k o hk ho hc => (HE5.out _ k hk (Array.getElem?_eq_some_iff.1 ho).1).trans ho⟩, ?_, (HE5.out _ _ (by omega) (blk_lt J2.out)).trans J2.out, ?_⟩
    · simp [World.setCell]
    · have hne : k ≠ w.heap.size + 1 := fun e => by subst e; rw [hJ1] at ho; cases ho; cases hc
      exact (HE5.out _ k hne (Array.getElem?_eq_some_iff.1 ho).1).trans ho
    · exact (pw_below_drewN (Below.refl _ _) _).setCell (p := ⟨w.heap.size + 1, 0, none⟩) (Nat.le_refl _) _
    · rw [HS.out, Int.emod_add_emod]
      exact blk_put (w := W.drewN _) J1.out 0 _ rfl
    · exact below_set (pw_below_drewN J3.out _) (Nat.le_succ _)
  case done =>
    rintro D ys W hD rfl ⟨hI1, hI2, hI3⟩ hK
    have J3 := Aside0.mk hI3
    have HKD := Aside0.mk hK
    have z0 : W.cell? ⟨w.heap.size + 1, 0, none⟩ = some (.int .i64 (horF l x (List.range l.length))) := (blk_cell hI1 0).trans rfl
    clear hI1 hI2 hI3 hK
    gi_wp2
    refine ⟨by simp, .inl ⟨_, _, rfl, run_takeDeferred HKD.out, ?_⟩⟩
    refine ⟨.int .i64 (horF l x (List.range l.length)), ?_, ?_, ?_⟩
    · simp [results, Tryd.f32, go_sem]
    · rw [horF_back, HE.out]
    · exact J3.out.trans (belowK_b (w := w) (Nat.le_refl _) _ D _ _ (by omega) HKD.out rfl rfl)
  case stop =>
    rintro D c pre W _ _ h _
    exact h.elim
def lottery_polynomial_at.f (l : List Int) (x : Int) : Option Int := if rs x ∧ ∀ y ∈ l, rs y then some (atF l x) else none
theorem lottery_polynomial_at.ok {l : List Int} {x : Int} (hx : rs x) (hl : ∀ y ∈ l, rs y) : lottery_polynomial_at.f l x = some (atF l x) := by unfold lottery_polynomial_at.f; rw [if_pos ⟨hx, hl⟩]
theorem lottery_polynomial_at.calls (A : Option Addr) (c : Nat) (l : List Int) (x r : Int) (w : World) (hr : Kd.C (Kd.int .i64) w A l.length l) (hc : l.length ≤ c) (h : lottery_polynomial_at.f l x = some r) :
    Calls Tryd.prog 32 #[.slice A l.length c, .int .i64 x] w fun e w' => e = .returned (.int .i64 r) ∧ Below w.heap.size w w' := by
  unfold lottery_polynomial_at.f at h
  split at h
  · rename_i hh
    exact at_calls A c l x r w hr hc hh.1 hh.2 (Option.some.inj h)
  · cases h
end Go.Proofs.YtfkeelccnomjkaaDoor.P
