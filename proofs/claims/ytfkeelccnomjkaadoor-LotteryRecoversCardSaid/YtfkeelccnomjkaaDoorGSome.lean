/- some: shares of a list, chosen by integers: what it computes, and that it computes it. -/
import Derived.Test.YtfkeelccnomjkaaDoorGRecover
import Derived.Test.YtfkeelccnomjkaaDoorPRA
import Derived.Deep.RegionHeld3
import Derived.Deep.RegionLawGrows
namespace Go.Proofs.YtfkeelccnomjkaaDoor.P
open Go.RowKit Go.Proofs.YtfkeelccnomjkaaDoorW.PrintWords Go.Proofs.YtfkeelccnomjkaaDoorW.PrintLast Go.Proofs.YtfkeelccnomjkaaDoorW.PrintMore Go.Proofs.YtfkeelccnomjkaaDoor.M
set_option linter.unusedVariables false
set_option linter.unusedSimpArgs false
def kAt (picks : List Int) (i n : Nat) : Nat := if i < picks.length then (rd picks (i : Int) % (n : Int)).toNat else 0
def someGo (least : Int) (picks : List Int) : Nat → Nat → List S47 → List S47 → List S47
  | 0, _, _, out => out
  | n + 1, i, rest, out => if (out.length : Int) < least ∨ i < picks.length then someGo least picks n (i + 1) (rest.eraseIdx (kAt picks i rest.length)) (out ++ [rd_T47 rest (kAt picks i rest.length : Int)]) else out
def someL (l : List S47) (least : Int) (picks : List Int) : List S47 := someGo least picks l.length 0 l []
def cohousinglaw22_some.f (l : List S47) (least : Int) (picks : List Int) : Option (List S47) := if l.length ≤ 1000 then some (someL l least picks) else none
theorem kAt_lt (picks : List Int) (i : Nat) {n : Nat} (h : 0 < n) : kAt picks i n < n := by
  unfold kAt
  split
  · have h0 : 0 ≤ rd picks (i : Int) % (n : Int) := Int.emod_nonneg _ (by omega)
    have h1 : rd picks (i : Int) % (n : Int) < n := Int.emod_lt_of_pos _ (by omega)
    omega
  · exact h
theorem add_zero_off (g n : Nat) : Addr.add ⟨g, 0, none⟩ n = ⟨g, n, none⟩ := by
  unfold Addr.add
  split
  · rename_i h; simp_all
  · simp
theorem pick_f (a : Int) {m : Int} (h0 : 0 < m) (h1 : m ≤ 4611686018427387904) : cohousinglaw22_pick.f a m = some (a % m) := by
  have e0 : 0 ≤ a % m := Int.emod_nonneg _ (by omega)
  have e1 : a % m < m := Int.emod_lt_of_pos _ h0
  unfold cohousinglaw22_pick.f
  rw [if_neg (by omega), Int.tmod_eq_emod]
  split
  · show (if a % m - 0 < 0 then some (wrap64 (a % m - 0 + m)) else some (a % m - 0)) = some (a % m)
    rw [Int.sub_zero, if_neg (by omega)]
  · have hn : ((m.natAbs : Nat) : Int) = m := by omega
    rw [hn, if_pos (by omega), wrap_ok (by omega)]
    congr 1; omega
theorem R_fresh {W : World} {base e : Nat} {α : Type} {d : Kd α} (hb : base ≤ W.heap.size) : d.R e (W.alloc (.cells #[] e)) base (fun _ => True) (.slice (some ⟨W.heap.size, 0, none⟩) 0 0) [] :=
  ⟨fun _ _ => trivial, [], by simpa using World.ownsRow_lit (base := base) (e := e) (size := d.sz) W #[] 0 hb (by decide) (by simp), Reps.none _ _⟩
theorem C_blk_move {W W' : World} {g n : Nat} {xs : List S47} (h : Kd.C k47 W (some ⟨g, 0, none⟩) n xs) (hb : W'.heap[g]? = W.heap[g]?) : Kd.C k47 W' (some ⟨g, 0, none⟩) n xs :=
  ⟨h.1, h.2.1, fun hp => by
    obtain ⟨ad, e, hc⟩ := h.2.2 hp
    refine ⟨ad, e, fun j p hj => ?_⟩
    obtain ⟨cs, h1, h2, h3⟩ := hc j p hj
    cases e
    refine ⟨cs, h1, ?_, fun i u hu => ?_⟩
    · obtain rfl := k47_open h2
      exact k47.K_of_M (k47_mkM W' 0 (fun _ => True) p)
    · rw [← h3 i u hu]; exact World.cell?_of_block (by rw [show (Addr.add ⟨g, 0, none⟩ (j * k47.sz + i)).block = g by unfold Addr.add; split <;> rfl]; exact hb)⟩
theorem cut_cap (t e : TypeId) {P : Program} {i : TypeInfo} (ht : P.underlying t = some (.slice e)) (hi : P.info? e = some i) (A : Option Addr) (n c k : Nat) (hk : k ≤ c) :
    ∀ W : World, (Instr.slice t (.slice A n c) none (some (.int .i64 (k : Int))) (some (.int .i64 (k : Int)))).run P W = .ok (.slice A k k) W := by
  intro W
  have hel : P.elem t = e := by simp [Program.elem, ht]
  have hu : P.underlying t = some (.slice (P.elem t)) := by rw [hel]; exact ht
  have ha : (A.map fun x => x.add 0) = A := by cases A <;> simp [Addr.add]
  rw [run_slice_hm W t A n c hu .i64 .i64 (k : Int) (k : Int) (by omega) (Int.le_refl _) (by omega), hel]
  simp [sizeOf, typeInfo, hi, sliced, Result.andThen, ha]
theorem R_of_own {w : World} {base n : Nat} {v : Value} {xs ys : List S47} {cx cy : List Value} (hx : Reps (k47.K w) 2 xs cx) (hy : Reps (k47.K w) 2 ys cy) (hn : n = (xs ++ ys).length) (w' : World) (ho : w'.ownsRow base 47 2 v n (cx ++ cy)) :
    Kd.R k47 47 w' base (fun _ => True) v (xs ++ ys) := by
  subst hn
  have hk : ∀ p cs, k47.K w p cs → k47.M w' base (fun k => True ∧ some k ≠ v.ownBlock) p cs := fun p cs h => by
    obtain rfl := k47_open h
    exact k47_mkM _ _ _ _
  exact ⟨fun _ _ => trivial, cx ++ cy, ho, Kd.reps_append (hx.imp_ hk) (hy.imp_ hk)⟩
set_option maxHeartbeats 16000000 in
set_option maxRecDepth 100000 in
theorem some_calls (A : Option Addr) (c : Nat) (l : List S47) (least : Int) (A3 : Option Addr) (c3 : Nat) (picks : List Int) (w : World) (hr : Kd.C k47 w A l.length l) (hc : l.length ≤ c) (hr3 : Kd.C (Kd.int .i64) w A3 picks.length picks) (hc3 : picks.length ≤ c3) (hn : l.length ≤ 1000) :
    Calls Tryd.prog 21 #[.slice A l.length c, .int .i64 least, .slice A3 picks.length c3] w fun e w' => ∃ v, e = .returned v ∧ Kd.R k47 47 w' w.heap.size (fun _ => True) v (someL l least picks) ∧ Below w.heap.size w w' := by
  have HR := Aside0.mk hr
  have HC := Aside0.mk hc
  have HR3 := Aside0.mk hr3
  have HC3 := Aside0.mk hc3
  have hm := hr.2.1
  have hm3 := hr3.2.1
  have hu47 := Tryd.underlying47
  clear hr hc hr3 hc3
  have HF : Aside0 (Kd.R k47 47 (w.alloc (.cells #[] 47)) w.heap.size (fun _ => True) (.slice (some ⟨w.heap.size, 0, none⟩) 0 0) []) := ⟨R_fresh (Nat.le_refl _)⟩
  go_enter Tryd.func21, Tryd.ntmps21
  go_wp2_with (at_builtin; refine Kd.R_append_rows k47 (w0 := w) w.heap.size rfl (.tmp 11) (.tmp 12) 25 47 (.agg #[(.int .i64 0), (.int .i64 0)]) 16 rfl Tryd.underlying25 info47 rfl (by decide) (by omega) (.slice (some ⟨w.heap.size, 0, none⟩) 0 0) [] l A l.length c (fun _ => True) (fun _ => False) rfl rfl ?aO ?aR (fun _ _ h => h) (fun _ h => h.elim) ?aF ?aB ?aS ?aL ?_; (case aR => exact Kd.C_alloc HR.out _); (case aB => exact below_alloc (Below.refl _ _) _); (case aF => exact fun _ _ => trivial); (case aO => exact HF.out); (case aS => exact (below_alloc (Below.refl _ _) _).size); (case aL => show (0 + l.length) * 16 ≤ 140737488355328; omega); intro v1 w1 ho hb hg hat; rw [List.nil_append] at ho; have HO := Aside0.mk ho; have HB := Aside0.mk hb; clear ho hb hg hat)
  clear HF
  obtain ⟨A7, c7, rfl, hc7, hr7⟩ := Kd.R_reads HO.out
  have hg7 : ∃ g : Nat, 0 < l.length → A7 = some ⟨g, 0, none⟩ ∧ w.heap.size ≤ g ∧ g < w1.heap.size := by
    rcases Nat.eq_zero_or_pos l.length with h | h
    · exact ⟨0, fun h2 => by omega⟩
    · obtain ⟨g, cap, e, h1, h2, _⟩ := Kd.R_form HO.out h
      injection e with e1 e2 e3
      exact ⟨g, fun _ => ⟨e1, h1, h2⟩⟩
  obtain ⟨g7, hg7⟩ := hg7
  have HG7 := Aside0.mk hg7
  have HR7 := Aside0.mk hr7
  have HC7 := Aside0.mk hc7
  clear hg7 hr7 hc7 HO
  go_wp2
  go_loopg [7, 8, 9, 10] l.length (fun gk v7 v8 v9 v10 w' => ∃ (i : Nat) (rest out : List S47) (g cap : Nat) (A7 : Option Addr), v9 = .int .i64 i ∧ v7 = .slice A7 rest.length cap ∧ Aside0 (gk = rest.length ∧ i + rest.length = l.length ∧ out.length = i ∧ rest.length ≤ cap) ∧
    Aside0 (0 < rest.length → A7 = some ⟨g, 0, none⟩ ∧ w.heap.size ≤ g ∧ g < w'.heap.size) ∧ Aside0 (Kd.C k47 w' A7 rest.length rest) ∧ Aside0 (Kd.R k47 47 w' w.heap.size (fun k => k ≠ g) v8 out) ∧ Aside0 (someGo least picks rest.length i rest out = someL l least picks) ∧ Aside0 (Below w.heap.size w w'))
  case atStart => exact ⟨0, l, [], g7, c7, A7, rfl, rfl, ⟨rfl, Nat.zero_add _, rfl, HC7.out⟩, HG7, HR7, ⟨Kd.R_nil _ _ _ _ _⟩, ⟨rfl⟩, HB⟩
  case round =>
    obtain ⟨i, rest, out, g, cap, A7, rfl, rfl, HI, HG, HX, HO, HS, HB⟩ := hrel
    obtain ⟨hgk, hil, hol, hcap⟩ := HI.out
    have hrl : rest.length ≤ 1000 := by omega
    obtain ⟨A8, c8, rfl, hc8, hr8⟩ := Kd.R_reads HO.out
    clear hc8 hr8
    by_cases h0 : 0 < rest.length
    · obtain ⟨rfl, hg1, hg2⟩ := HG.out h0
      obtain ⟨n, hn1⟩ : ∃ n, rest.length = n + 1 := ⟨rest.length - 1, by omega⟩
      have hkl := kAt_lt picks i h0
      generalize hkk : kAt picks i rest.length = k at *
      obtain ⟨ad, e, x0, x1⟩ := at_T47 HX.out (k : Int) (by omega) (by omega)
      cases e
      simp only [Int.toNat_natCast, add_zero_off] at x0 x1
      have hse : rest.eraseIdx k = rest.take k ++ rest.drop (k + 1) := List.eraseIdx_eq_take_drop_succ rest k
      have hgo : (out.length : Int) < least ∨ i < picks.length → someGo least picks (rest.take k ++ rest.drop (k + 1)).length (i + 1) (rest.take k ++ rest.drop (k + 1)) (out ++ [rd_T47 rest (k : Int)]) = someL l least picks := fun h => by
        have h2 := HS.out
        rw [hn1] at h2
        unfold someGo at h2
        rw [if_pos h, hkk, hse] at h2
        have hl2 : (rest.take k ++ rest.drop (k + 1)).length = n := by rw [List.length_append, List.length_take, List.length_drop]; omega
        rw [hl2]; exact h2
      have HGO := Aside0.mk hgo
      have HOL := Aside0.mk hol
      have hob : out.length ≤ 1000 := by omega
      clear hgo hn1 hol
      have hcutA := cut_cap (P := Tryd.prog) 25 47 Tryd.underlying25 (info_parts info47).choose_spec.1 (some ⟨g, 0, none⟩) rest.length cap k (by omega)
      have hcutf := cut_from (P := Tryd.prog) 25 47 .i64 Tryd.underlying25 (info_parts info47).choose_spec.1 2 (info_parts info47).choose_spec.2.2.1 (some ⟨g, 0, none⟩) rest.length cap ((k : Int) + 1) (by omega) (by omega)
      rw [show ((k : Int) + 1).toNat = k + 1 by omega] at hcutf
      have HT1 : Aside0 (Kd.C k47 wr (some ⟨g, 0, none⟩) (rest.take k).length (rest.take k)) := ⟨Kd.C_take HX.out (by omega)⟩
      have HT2 : Aside0 (Kd.C k47 wr (if cap = k + 1 then some ⟨g, 0, none⟩ else (some (⟨g, 0, none⟩ : Addr)).map (·.add ((k + 1) * 2))) (rest.drop (k + 1)).length (rest.drop (k + 1))) := ⟨Kd.C_drop HX.out (by omega) hcap⟩
      generalize rd_T47 rest (k : Int) = x at *
      by_cases h1 : (out.length : Int) < least
      · by_cases h2 : i < picks.length
        · obtain ⟨ad, e, y0⟩ := Kd.at_int HR3.out (i : Int) (by omega) (by omega)
          cases e
          simp only [Int.toNat_natCast] at y0
          replace y0 := (HB.out.cell (World.block_lt_of_cell? w _ y0)).trans y0
          have HPk : Aside0 (cohousinglaw22_pick.f (rd picks (i : Int)) (rest.length : Int) = some (k : Int)) := ⟨by
            rw [pick_f _ (by omega) (by omega)]
            rw [← hkk]; unfold kAt; rw [if_pos h2, Int.toNat_of_nonneg (Int.emod_nonneg _ (by omega))]⟩
          clear hkk
          generalize rd picks (i : Int) = p at *
          have hwk : IntKind.i64.wrap ((k : Int) + 1) = (k : Int) + 1 := Go.IntWalk.i64_in _ (by omega)
          by_cases hlast : k + 1 < rest.length
          · go_upto_region 10 with (first
          | (go_at_call 27; (with_reducible refine (cohousinglaw22_pick.calls p (rest.length : Int) (k : Int) _ HPk.out).mono ?_); rintro e w2 ⟨rfl, ⟨nd, rfl⟩⟩)
          | (at_builtin; refine Kd.R_append k47 (w0 := w) w.heap.size rfl (.tmp 42) (.tmp 47) 25 47 (.agg #[(.int .i64 0), (.int .i64 0)]) 16 rfl Tryd.underlying25 info47 rfl (by decide) (by omega) (.slice A8 out.length c8) out x [.int .i64 x.f0, .int .i64 x.f1] (fun q => q ≠ g) (fun _ => False) rfl rfl ?aP (fun _ hk => hk.elim) ?aF ?aO ?aB ?aS ?aL ?_; (case aP => exact k47_mkM _ _ _ _); (case aB => exact (pw_below_drewN HB.out _)); (case aF => exact fun q hq e => by subst e; (try simp at hq); omega); (case aO => exact (Kd.R_drewN HO.out _)); (case aS => exact ((pw_below_drewN HB.out _)).size); (case aL => omega); intro v1 w3 ho hb hg hat; have hgx := HO.out.1 g; have HX3 := Aside0.mk (C_blk_move (Kd.C_drewN HX.out _) (hg.block g (by first | omega | (simp; omega)) (fun e => hgx e.symm rfl))); have HB3 := Aside0.mk hb; have HO3 := Aside0.mk ho; have HS3 : g < w3.heap.size := Nat.lt_of_lt_of_le hg2 (by have := hg.size; (try simp at this); omega); clear ho hb hg hat))
            have hd1 : 0 < (rest.drop (k + 1)).length := by rw [List.length_drop]; omega
            have hX := Kd.C_drewN HX3.out 1
            have h2' := Kd.C_drop (m := k + 1) (c := cap) hX (by omega) hcap
            have h1' := Kd.C_take (m := k) hX (by omega)
            obtain ⟨ad5, e5⟩ : ∃ ad5, (if cap = k + 1 then some (⟨g, 0, none⟩ : Addr) else (some (⟨g, 0, none⟩ : Addr)).map (·.add ((k + 1) * 2))) = some ad5 := by split <;> exact ⟨_, rfl⟩
            replace h2' : Kd.C k47 (w3.drewN 1) (some ad5) (rest.drop (k + 1)).length (rest.drop (k + 1)) := by rw [← e5]; exact h2'
            rw [e5] at hcutf
            obtain ⟨olds, ro, co⟩ := ReadsRow.inner_ h1'
            obtain ⟨news, rn, cn⟩ := ReadsRow.inner_ h2'
            obtain ⟨i47, hi47, hz47, hs47, hb47⟩ := info_parts info47
            have hl1 : (rest.take k).length = k := by rw [List.length_take]; omega
            have hl2 : (rest.drop (k + 1)).length = rest.length - (k + 1) := List.length_drop
            have hlo : olds.length = k * 2 := by rw [ro.1, hl1]; rfl
            have hln : news.length = (rest.length - (k + 1)) * 2 := by rw [rn.1, hl2]; rfl
            go_region_held3 (fun w' => True) (first | trivial | go_keep)
              ((first
                | (refine step_append_grows (by rfl) (.tmp 52) (.tmp 56) 25 (by rfl) 47 i47 (.agg #[(.int .i64 0), (.int .i64 0)]) 2 16 Tryd.underlying25 hi47 hz47 hs47 hb47 (by rfl) (by decide) (some ⟨g, 0, none⟩) k k olds (by rfl) (fun h => by cases h) hlo (fun b hb j u hu => by cases hb; exact co j u hu) ad5 (rest.length - (k + 1)) (cap - (k + 1)) news (by rfl) hln (fun j u hu => cn j u hu) (Kd.reps_one rn (by decide) (fun _ _ hk => k47.K_one hk)) (by omega) (by simp only [maxLen]; omega) (by omega) ?_; intro v' w4 hown hgr; have HOwn := Aside0.mk hown; have HGr := Aside0.mk hgr; clear hown hgr)))
            have HRn := R_of_own (w := w3.drewN 1) ro rn (n := k + (rest.length - (k + 1))) (by rw [List.length_append, hl1, hl2]) _ HOwn.out
            obtain ⟨g', cap', rfl, hg3, hg4, _⟩ := Kd.R_form HRn (by rw [List.length_append]; omega)
            obtain ⟨_, hcap', hRr⟩ := Kd.R_reads' HRn
            replace hg3 : w3.heap.size ≤ g' := by simpa using hg3
            have hsz3 : (w3.drewN 1).heap.size = w3.heap.size := by simp
            have HO4 := Aside0.mk (Kd.R_mono (ok' := fun q => q ≠ g') (Kd.R_grown (Kd.R_bound (Kd.R_drewN HO3.out 1)) HGr.out (fun q _ e => by cases e)) (fun q hq => by have h := hq.2.2.1; rw [hsz3] at h; omega))
            have HB4 := Aside0.mk ((pw_below_drewN HB3.out 1).grown HGr.out (by rw [hsz3]; exact HB3.out.size) (by rintro q h; cases h))
            have HRr := Aside0.mk hRr
            have hwg : w.heap.size ≤ g' := by have := HB3.out.size; omega
            have hgo2 := HGO.out (by omega)
            have HGo2 := Aside0.mk hgo2
            have hlr : (rest.take k ++ rest.drop (k + 1)).length = rest.length - 1 := by rw [List.length_append, hl1, hl2]; omega
            generalize rest.take k ++ rest.drop (k + 1) = rest' at *
            clear hcutA hcutf hX h1' h2' co cn ro rn hgo2 hRr HOwn HRn
            go_wp2
            go_roundg rest'.length
            case measure => omega
            case rel => exact ⟨i + 1, rest', out ++ [x], g', cap', some ⟨g', 0, none⟩, by go_num, (by rw [hlr]), ⟨rfl, by omega, by rw [List.length_append, HOL.out]; rfl, hcap'⟩, ⟨fun _ => ⟨rfl, hwg, hg4⟩⟩, HRr, HO4, HGo2, HB4⟩
          · go_upto_region 10 with (first
          | (go_at_call 27; (with_reducible refine (cohousinglaw22_pick.calls p (rest.length : Int) (k : Int) _ HPk.out).mono ?_); rintro e w2 ⟨rfl, ⟨nd, rfl⟩⟩)
          | (at_builtin; refine Kd.R_append k47 (w0 := w) w.heap.size rfl (.tmp 42) (.tmp 47) 25 47 (.agg #[(.int .i64 0), (.int .i64 0)]) 16 rfl Tryd.underlying25 info47 rfl (by decide) (by omega) (.slice A8 out.length c8) out x [.int .i64 x.f0, .int .i64 x.f1] (fun q => q ≠ g) (fun _ => False) rfl rfl ?aP (fun _ hk => hk.elim) ?aF ?aO ?aB ?aS ?aL ?_; (case aP => exact k47_mkM _ _ _ _); (case aB => exact (pw_below_drewN HB.out _)); (case aF => exact fun q hq e => by subst e; (try simp at hq); omega); (case aO => exact (Kd.R_drewN HO.out _)); (case aS => exact ((pw_below_drewN HB.out _)).size); (case aL => omega); intro v1 w3 ho hb hg hat; have hgx := HO.out.1 g; have HX3 := Aside0.mk (C_blk_move (Kd.C_drewN HX.out _) (hg.block g (by first | omega | (simp; omega)) (fun e => hgx e.symm rfl))); have HB3 := Aside0.mk hb; have HO3 := Aside0.mk ho; have HS3 : g < w3.heap.size := Nat.lt_of_lt_of_le hg2 (by have := hg.size; (try simp at this); omega); clear ho hb hg hat))
            obtain ⟨i47, hi47, hz47, hs47, hb47⟩ := info_parts info47
            obtain ⟨ad5, e5⟩ : ∃ ad5, (if cap = k + 1 then some (⟨g, 0, none⟩ : Addr) else (some (⟨g, 0, none⟩ : Addr)).map (·.add ((k + 1) * 2))) = some ad5 := by split <;> exact ⟨_, rfl⟩
            rw [e5, show rest.length - (k + 1) = 0 by omega] at hcutf
            go_region_held3 (fun w' => True) (first | trivial | go_keep)
              ((first
                | (refine step_append_room (by rfl) (.tmp 52) (.tmp 56) 25 (by rfl) 47 i47 2 Tryd.underlying25 hi47 hs47 g 0 k k (by rfl) ad5 0 (cap - (k + 1)) [] (by rfl) (by rfl) (fun j u h => by simp at h) (fun u h => by simp at h) (by omega) (fun j h => by simp at h) ?_; simp only [World.setCells, Nat.add_zero])))
            have hd0 : rest.drop (k + 1) = [] := List.drop_eq_nil_of_le (by omega)
            have hl1 : (rest.take k).length = k := by rw [List.length_take]; omega
            have h1' := Kd.C_take (m := k) (Kd.C_drewN HX3.out 1) (by omega)
            rw [hl1] at h1'
            have HRr := Aside0.mk h1'
            have HO4 := Aside0.mk (Kd.R_drewN HO3.out 1)
            have HB4 := Aside0.mk (pw_below_drewN HB3.out 1)
            have hgo2 := HGO.out (by omega)
            rw [hd0, List.append_nil, hl1] at hgo2
            have HGo2 := Aside0.mk hgo2
            have hsz3 : (w3.drewN 1).heap.size = w3.heap.size := by simp
            generalize rest.take k = rest' at *
            clear hcutA hcutf hgo2 h1'
            subst hl1
            go_wp2
            go_roundg rest'.length
            case measure => omega
            case rel => exact ⟨i + 1, rest', out ++ [x], g, rest'.length, some ⟨g, 0, none⟩, by go_num, rfl, ⟨rfl, by omega, by rw [List.length_append, HOL.out]; rfl, Nat.le_refl _⟩, ⟨fun _ => ⟨rfl, hg1, by simpa using HS3⟩⟩, HRr, HO4, HGo2, HB4⟩
        · have hk0 : k = 0 := by rw [← hkk]; unfold kAt; rw [if_neg h2]
          clear hkk
          have hwk : IntKind.i64.wrap ((k : Int) + 1) = (k : Int) + 1 := Go.IntWalk.i64_in _ (by omega)
          go_upto_region 9 with (fail)
          rw [show (Value.int .i64 0) = Value.int .i64 ((k : Nat) : Int) by rw [hk0]; rfl]
          clear hk0
          by_cases hlast : k + 1 < rest.length
          · go_upto_region 10 with (first
          | (at_builtin; refine Kd.R_append k47 (w0 := w) w.heap.size rfl (.tmp 42) (.tmp 47) 25 47 (.agg #[(.int .i64 0), (.int .i64 0)]) 16 rfl Tryd.underlying25 info47 rfl (by decide) (by omega) (.slice A8 out.length c8) out x [.int .i64 x.f0, .int .i64 x.f1] (fun q => q ≠ g) (fun _ => False) rfl rfl ?aP (fun _ hk => hk.elim) ?aF ?aO ?aB ?aS ?aL ?_; (case aP => exact k47_mkM _ _ _ _); (case aB => exact HB.out); (case aF => exact fun q hq e => by subst e; (try simp at hq); omega); (case aO => exact HO.out); (case aS => exact (HB.out).size); (case aL => omega); intro v1 w3 ho hb hg hat; have hgx := HO.out.1 g; have HX3 := Aside0.mk (C_blk_move HX.out (hg.block g (by first | omega | (simp; omega)) (fun e => hgx e.symm rfl))); have HB3 := Aside0.mk hb; have HO3 := Aside0.mk ho; have HS3 : g < w3.heap.size := Nat.lt_of_lt_of_le hg2 (by have := hg.size; (try simp at this); omega); clear ho hb hg hat))
            have hd1 : 0 < (rest.drop (k + 1)).length := by rw [List.length_drop]; omega
            have hX := Kd.C_drewN HX3.out 1
            have h2' := Kd.C_drop (m := k + 1) (c := cap) hX (by omega) hcap
            have h1' := Kd.C_take (m := k) hX (by omega)
            obtain ⟨ad5, e5⟩ : ∃ ad5, (if cap = k + 1 then some (⟨g, 0, none⟩ : Addr) else (some (⟨g, 0, none⟩ : Addr)).map (·.add ((k + 1) * 2))) = some ad5 := by split <;> exact ⟨_, rfl⟩
            replace h2' : Kd.C k47 (w3.drewN 1) (some ad5) (rest.drop (k + 1)).length (rest.drop (k + 1)) := by rw [← e5]; exact h2'
            rw [e5] at hcutf
            obtain ⟨olds, ro, co⟩ := ReadsRow.inner_ h1'
            obtain ⟨news, rn, cn⟩ := ReadsRow.inner_ h2'
            obtain ⟨i47, hi47, hz47, hs47, hb47⟩ := info_parts info47
            have hl1 : (rest.take k).length = k := by rw [List.length_take]; omega
            have hl2 : (rest.drop (k + 1)).length = rest.length - (k + 1) := List.length_drop
            have hlo : olds.length = k * 2 := by rw [ro.1, hl1]; rfl
            have hln : news.length = (rest.length - (k + 1)) * 2 := by rw [rn.1, hl2]; rfl
            go_region_held3 (fun w' => True) (first | trivial | go_keep)
              ((first
                | (refine step_append_grows (by rfl) (.tmp 52) (.tmp 56) 25 (by rfl) 47 i47 (.agg #[(.int .i64 0), (.int .i64 0)]) 2 16 Tryd.underlying25 hi47 hz47 hs47 hb47 (by rfl) (by decide) (some ⟨g, 0, none⟩) k k olds (by rfl) (fun h => by cases h) hlo (fun b hb j u hu => by cases hb; exact co j u hu) ad5 (rest.length - (k + 1)) (cap - (k + 1)) news (by rfl) hln (fun j u hu => cn j u hu) (Kd.reps_one rn (by decide) (fun _ _ hk => k47.K_one hk)) (by omega) (by simp only [maxLen]; omega) (by omega) ?_; intro v' w4 hown hgr; have HOwn := Aside0.mk hown; have HGr := Aside0.mk hgr; clear hown hgr)))
            have HRn := R_of_own (w := w3.drewN 1) ro rn (n := k + (rest.length - (k + 1))) (by rw [List.length_append, hl1, hl2]) _ HOwn.out
            obtain ⟨g', cap', rfl, hg3, hg4, _⟩ := Kd.R_form HRn (by rw [List.length_append]; omega)
            obtain ⟨_, hcap', hRr⟩ := Kd.R_reads' HRn
            replace hg3 : w3.heap.size ≤ g' := by simpa using hg3
            have hsz3 : (w3.drewN 1).heap.size = w3.heap.size := by simp
            have HO4 := Aside0.mk (Kd.R_mono (ok' := fun q => q ≠ g') (Kd.R_grown (Kd.R_bound (Kd.R_drewN HO3.out 1)) HGr.out (fun q _ e => by cases e)) (fun q hq => by have h := hq.2.2.1; rw [hsz3] at h; omega))
            have HB4 := Aside0.mk ((pw_below_drewN HB3.out 1).grown HGr.out (by rw [hsz3]; exact HB3.out.size) (by rintro q h; cases h))
            have HRr := Aside0.mk hRr
            have hwg : w.heap.size ≤ g' := by have := HB3.out.size; omega
            have hgo2 := HGO.out (by omega)
            have HGo2 := Aside0.mk hgo2
            have hlr : (rest.take k ++ rest.drop (k + 1)).length = rest.length - 1 := by rw [List.length_append, hl1, hl2]; omega
            generalize rest.take k ++ rest.drop (k + 1) = rest' at *
            clear hcutA hcutf hX h1' h2' co cn ro rn hgo2 hRr HOwn HRn
            go_wp2
            go_roundg rest'.length
            case measure => omega
            case rel => exact ⟨i + 1, rest', out ++ [x], g', cap', some ⟨g', 0, none⟩, by go_num, (by rw [hlr]), ⟨rfl, by omega, by rw [List.length_append, HOL.out]; rfl, hcap'⟩, ⟨fun _ => ⟨rfl, hwg, hg4⟩⟩, HRr, HO4, HGo2, HB4⟩
          · go_upto_region 10 with (first
          | (at_builtin; refine Kd.R_append k47 (w0 := w) w.heap.size rfl (.tmp 42) (.tmp 47) 25 47 (.agg #[(.int .i64 0), (.int .i64 0)]) 16 rfl Tryd.underlying25 info47 rfl (by decide) (by omega) (.slice A8 out.length c8) out x [.int .i64 x.f0, .int .i64 x.f1] (fun q => q ≠ g) (fun _ => False) rfl rfl ?aP (fun _ hk => hk.elim) ?aF ?aO ?aB ?aS ?aL ?_; (case aP => exact k47_mkM _ _ _ _); (case aB => exact HB.out); (case aF => exact fun q hq e => by subst e; (try simp at hq); omega); (case aO => exact HO.out); (case aS => exact (HB.out).size); (case aL => omega); intro v1 w3 ho hb hg hat; have hgx := HO.out.1 g; have HX3 := Aside0.mk (C_blk_move HX.out (hg.block g (by first | omega | (simp; omega)) (fun e => hgx e.symm rfl))); have HB3 := Aside0.mk hb; have HO3 := Aside0.mk ho; have HS3 : g < w3.heap.size := Nat.lt_of_lt_of_le hg2 (by have := hg.size; (try simp at this); omega); clear ho hb hg hat))
            obtain ⟨i47, hi47, hz47, hs47, hb47⟩ := info_parts info47
            obtain ⟨ad5, e5⟩ : ∃ ad5, (if cap = k + 1 then some (⟨g, 0, none⟩ : Addr) else (some (⟨g, 0, none⟩ : Addr)).map (·.add ((k + 1) * 2))) = some ad5 := by split <;> exact ⟨_, rfl⟩
            rw [e5, show rest.length - (k + 1) = 0 by omega] at hcutf
            go_region_held3 (fun w' => True) (first | trivial | go_keep)
              ((first
                | (refine step_append_room (by rfl) (.tmp 52) (.tmp 56) 25 (by rfl) 47 i47 2 Tryd.underlying25 hi47 hs47 g 0 k k (by rfl) ad5 0 (cap - (k + 1)) [] (by rfl) (by rfl) (fun j u h => by simp at h) (fun u h => by simp at h) (by omega) (fun j h => by simp at h) ?_; simp only [World.setCells, Nat.add_zero])))
            have hd0 : rest.drop (k + 1) = [] := List.drop_eq_nil_of_le (by omega)
            have hl1 : (rest.take k).length = k := by rw [List.length_take]; omega
            have h1' := Kd.C_take (m := k) (Kd.C_drewN HX3.out 1) (by omega)
            rw [hl1] at h1'
            have HRr := Aside0.mk h1'
            have HO4 := Aside0.mk (Kd.R_drewN HO3.out 1)
            have HB4 := Aside0.mk (pw_below_drewN HB3.out 1)
            have hgo2 := HGO.out (by omega)
            rw [hd0, List.append_nil, hl1] at hgo2
            have HGo2 := Aside0.mk hgo2
            have hsz3 : (w3.drewN 1).heap.size = w3.heap.size := by simp
            generalize rest.take k = rest' at *
            clear hcutA hcutf hgo2 h1'
            subst hl1
            go_wp2
            go_roundg rest'.length
            case measure => omega
            case rel => exact ⟨i + 1, rest', out ++ [x], g, rest'.length, some ⟨g, 0, none⟩, by go_num, rfl, ⟨rfl, by omega, by rw [List.length_append, HOL.out]; rfl, Nat.le_refl _⟩, ⟨fun _ => ⟨rfl, hg1, by simpa using HS3⟩⟩, HRr, HO4, HGo2, HB4⟩
      · by_cases h2 : i < picks.length
        · obtain ⟨ad, e, y0⟩ := Kd.at_int HR3.out (i : Int) (by omega) (by omega)
          cases e
          simp only [Int.toNat_natCast] at y0
          replace y0 := (HB.out.cell (World.block_lt_of_cell? w _ y0)).trans y0
          have HPk : Aside0 (cohousinglaw22_pick.f (rd picks (i : Int)) (rest.length : Int) = some (k : Int)) := ⟨by
            rw [pick_f _ (by omega) (by omega)]
            rw [← hkk]; unfold kAt; rw [if_pos h2, Int.toNat_of_nonneg (Int.emod_nonneg _ (by omega))]⟩
          clear hkk
          generalize rd picks (i : Int) = p at *
          have hwk : IntKind.i64.wrap ((k : Int) + 1) = (k : Int) + 1 := Go.IntWalk.i64_in _ (by omega)
          by_cases hlast : k + 1 < rest.length
          · go_upto_region 10 with (first
          | (go_at_call 27; (with_reducible refine (cohousinglaw22_pick.calls p (rest.length : Int) (k : Int) _ HPk.out).mono ?_); rintro e w2 ⟨rfl, ⟨nd, rfl⟩⟩)
          | (at_builtin; refine Kd.R_append k47 (w0 := w) w.heap.size rfl (.tmp 42) (.tmp 47) 25 47 (.agg #[(.int .i64 0), (.int .i64 0)]) 16 rfl Tryd.underlying25 info47 rfl (by decide) (by omega) (.slice A8 out.length c8) out x [.int .i64 x.f0, .int .i64 x.f1] (fun q => q ≠ g) (fun _ => False) rfl rfl ?aP (fun _ hk => hk.elim) ?aF ?aO ?aB ?aS ?aL ?_; (case aP => exact k47_mkM _ _ _ _); (case aB => exact (pw_below_drewN HB.out _)); (case aF => exact fun q hq e => by subst e; (try simp at hq); omega); (case aO => exact (Kd.R_drewN HO.out _)); (case aS => exact ((pw_below_drewN HB.out _)).size); (case aL => omega); intro v1 w3 ho hb hg hat; have hgx := HO.out.1 g; have HX3 := Aside0.mk (C_blk_move (Kd.C_drewN HX.out _) (hg.block g (by first | omega | (simp; omega)) (fun e => hgx e.symm rfl))); have HB3 := Aside0.mk hb; have HO3 := Aside0.mk ho; have HS3 : g < w3.heap.size := Nat.lt_of_lt_of_le hg2 (by have := hg.size; (try simp at this); omega); clear ho hb hg hat))
            have hd1 : 0 < (rest.drop (k + 1)).length := by rw [List.length_drop]; omega
            have hX := Kd.C_drewN HX3.out 1
            have h2' := Kd.C_drop (m := k + 1) (c := cap) hX (by omega) hcap
            have h1' := Kd.C_take (m := k) hX (by omega)
            obtain ⟨ad5, e5⟩ : ∃ ad5, (if cap = k + 1 then some (⟨g, 0, none⟩ : Addr) else (some (⟨g, 0, none⟩ : Addr)).map (·.add ((k + 1) * 2))) = some ad5 := by split <;> exact ⟨_, rfl⟩
            replace h2' : Kd.C k47 (w3.drewN 1) (some ad5) (rest.drop (k + 1)).length (rest.drop (k + 1)) := by rw [← e5]; exact h2'
            rw [e5] at hcutf
            obtain ⟨olds, ro, co⟩ := ReadsRow.inner_ h1'
            obtain ⟨news, rn, cn⟩ := ReadsRow.inner_ h2'
            obtain ⟨i47, hi47, hz47, hs47, hb47⟩ := info_parts info47
            have hl1 : (rest.take k).length = k := by rw [List.length_take]; omega
            have hl2 : (rest.drop (k + 1)).length = rest.length - (k + 1) := List.length_drop
            have hlo : olds.length = k * 2 := by rw [ro.1, hl1]; rfl
            have hln : news.length = (rest.length - (k + 1)) * 2 := by rw [rn.1, hl2]; rfl
            go_region_held3 (fun w' => True) (first | trivial | go_keep)
              ((first
                | (refine step_append_grows (by rfl) (.tmp 52) (.tmp 56) 25 (by rfl) 47 i47 (.agg #[(.int .i64 0), (.int .i64 0)]) 2 16 Tryd.underlying25 hi47 hz47 hs47 hb47 (by rfl) (by decide) (some ⟨g, 0, none⟩) k k olds (by rfl) (fun h => by cases h) hlo (fun b hb j u hu => by cases hb; exact co j u hu) ad5 (rest.length - (k + 1)) (cap - (k + 1)) news (by rfl) hln (fun j u hu => cn j u hu) (Kd.reps_one rn (by decide) (fun _ _ hk => k47.K_one hk)) (by omega) (by simp only [maxLen]; omega) (by omega) ?_; intro v' w4 hown hgr; have HOwn := Aside0.mk hown; have HGr := Aside0.mk hgr; clear hown hgr)))
            have HRn := R_of_own (w := w3.drewN 1) ro rn (n := k + (rest.length - (k + 1))) (by rw [List.length_append, hl1, hl2]) _ HOwn.out
            obtain ⟨g', cap', rfl, hg3, hg4, _⟩ := Kd.R_form HRn (by rw [List.length_append]; omega)
            obtain ⟨_, hcap', hRr⟩ := Kd.R_reads' HRn
            replace hg3 : w3.heap.size ≤ g' := by simpa using hg3
            have hsz3 : (w3.drewN 1).heap.size = w3.heap.size := by simp
            have HO4 := Aside0.mk (Kd.R_mono (ok' := fun q => q ≠ g') (Kd.R_grown (Kd.R_bound (Kd.R_drewN HO3.out 1)) HGr.out (fun q _ e => by cases e)) (fun q hq => by have h := hq.2.2.1; rw [hsz3] at h; omega))
            have HB4 := Aside0.mk ((pw_below_drewN HB3.out 1).grown HGr.out (by rw [hsz3]; exact HB3.out.size) (by rintro q h; cases h))
            have HRr := Aside0.mk hRr
            have hwg : w.heap.size ≤ g' := by have := HB3.out.size; omega
            have hgo2 := HGO.out (by omega)
            have HGo2 := Aside0.mk hgo2
            have hlr : (rest.take k ++ rest.drop (k + 1)).length = rest.length - 1 := by rw [List.length_append, hl1, hl2]; omega
            generalize rest.take k ++ rest.drop (k + 1) = rest' at *
            clear hcutA hcutf hX h1' h2' co cn ro rn hgo2 hRr HOwn HRn
            go_wp2
            go_roundg rest'.length
            case measure => omega
            case rel => exact ⟨i + 1, rest', out ++ [x], g', cap', some ⟨g', 0, none⟩, by go_num, (by rw [hlr]), ⟨rfl, by omega, by rw [List.length_append, HOL.out]; rfl, hcap'⟩, ⟨fun _ => ⟨rfl, hwg, hg4⟩⟩, HRr, HO4, HGo2, HB4⟩
          · go_upto_region 10 with (first
          | (go_at_call 27; (with_reducible refine (cohousinglaw22_pick.calls p (rest.length : Int) (k : Int) _ HPk.out).mono ?_); rintro e w2 ⟨rfl, ⟨nd, rfl⟩⟩)
          | (at_builtin; refine Kd.R_append k47 (w0 := w) w.heap.size rfl (.tmp 42) (.tmp 47) 25 47 (.agg #[(.int .i64 0), (.int .i64 0)]) 16 rfl Tryd.underlying25 info47 rfl (by decide) (by omega) (.slice A8 out.length c8) out x [.int .i64 x.f0, .int .i64 x.f1] (fun q => q ≠ g) (fun _ => False) rfl rfl ?aP (fun _ hk => hk.elim) ?aF ?aO ?aB ?aS ?aL ?_; (case aP => exact k47_mkM _ _ _ _); (case aB => exact (pw_below_drewN HB.out _)); (case aF => exact fun q hq e => by subst e; (try simp at hq); omega); (case aO => exact (Kd.R_drewN HO.out _)); (case aS => exact ((pw_below_drewN HB.out _)).size); (case aL => omega); intro v1 w3 ho hb hg hat; have hgx := HO.out.1 g; have HX3 := Aside0.mk (C_blk_move (Kd.C_drewN HX.out _) (hg.block g (by first | omega | (simp; omega)) (fun e => hgx e.symm rfl))); have HB3 := Aside0.mk hb; have HO3 := Aside0.mk ho; have HS3 : g < w3.heap.size := Nat.lt_of_lt_of_le hg2 (by have := hg.size; (try simp at this); omega); clear ho hb hg hat))
            obtain ⟨i47, hi47, hz47, hs47, hb47⟩ := info_parts info47
            obtain ⟨ad5, e5⟩ : ∃ ad5, (if cap = k + 1 then some (⟨g, 0, none⟩ : Addr) else (some (⟨g, 0, none⟩ : Addr)).map (·.add ((k + 1) * 2))) = some ad5 := by split <;> exact ⟨_, rfl⟩
            rw [e5, show rest.length - (k + 1) = 0 by omega] at hcutf
            go_region_held3 (fun w' => True) (first | trivial | go_keep)
              ((first
                | (refine step_append_room (by rfl) (.tmp 52) (.tmp 56) 25 (by rfl) 47 i47 2 Tryd.underlying25 hi47 hs47 g 0 k k (by rfl) ad5 0 (cap - (k + 1)) [] (by rfl) (by rfl) (fun j u h => by simp at h) (fun u h => by simp at h) (by omega) (fun j h => by simp at h) ?_; simp only [World.setCells, Nat.add_zero])))
            have hd0 : rest.drop (k + 1) = [] := List.drop_eq_nil_of_le (by omega)
            have hl1 : (rest.take k).length = k := by rw [List.length_take]; omega
            have h1' := Kd.C_take (m := k) (Kd.C_drewN HX3.out 1) (by omega)
            rw [hl1] at h1'
            have HRr := Aside0.mk h1'
            have HO4 := Aside0.mk (Kd.R_drewN HO3.out 1)
            have HB4 := Aside0.mk (pw_below_drewN HB3.out 1)
            have hgo2 := HGO.out (by omega)
            rw [hd0, List.append_nil, hl1] at hgo2
            have HGo2 := Aside0.mk hgo2
            have hsz3 : (w3.drewN 1).heap.size = w3.heap.size := by simp
            generalize rest.take k = rest' at *
            clear hcutA hcutf hgo2 h1'
            subst hl1
            go_wp2
            go_roundg rest'.length
            case measure => omega
            case rel => exact ⟨i + 1, rest', out ++ [x], g, rest'.length, some ⟨g, 0, none⟩, by go_num, rfl, ⟨rfl, by omega, by rw [List.length_append, HOL.out]; rfl, Nat.le_refl _⟩, ⟨fun _ => ⟨rfl, hg1, by simpa using HS3⟩⟩, HRr, HO4, HGo2, HB4⟩
        · obtain ⟨n, hn1⟩ : ∃ n, rest.length = n + 1 := ⟨rest.length - 1, by omega⟩
          have hS := HS.out
          rw [hn1] at hS
          unfold someGo at hS
          rw [if_neg (by rw [HOL.out]; rw [HOL.out] at h1; omega)] at hS
          have HS2 := Aside0.mk hS
          clear hS hn1
          go_wp2
          go_ret
          exact ⟨_, rfl, by
            have h := HS2.out
            rw [← h]
            exact Kd.R_mono HO.out (fun _ _ => trivial), HB.out⟩
    · have hS := HS.out
      rw [show rest.length = 0 by omega] at hS
      have HS2 := Aside0.mk hS
      clear hS
      go_wp2
      go_ret
      exact ⟨_, rfl, by
        have h := HS2.out
        rw [← h]
        exact Kd.R_mono HO.out (fun _ _ => trivial), HB.out⟩
theorem cohousinglaw22_some.calls (A : Option Addr) (c : Nat) (l : List S47) (least : Int) (A3 : Option Addr) (c3 : Nat) (picks : List Int) (r : List S47) (w : World) (hr : Kd.C k47 w A l.length l) (hc : l.length ≤ c) (hr3 : Kd.C (Kd.int .i64) w A3 picks.length picks) (hc3 : picks.length ≤ c3) (h : cohousinglaw22_some.f l least picks = some r) :
    Calls Tryd.prog 21 #[.slice A l.length c, .int .i64 least, .slice A3 picks.length c3] w fun e w' => ∃ v, e = .returned v ∧ Kd.R k47 47 w' w.heap.size (fun _ => True) v r ∧ Below w.heap.size w w' := by
  unfold cohousinglaw22_some.f at h
  split at h
  · rename_i hl
    obtain rfl := Option.some.inj h
    exact some_calls A c l least A3 c3 picks w hr hc hr3 hc3 hl
  · cases h
end Go.Proofs.YtfkeelccnomjkaaDoor.P
