/- A loop over a map of which a function tells the elements (MapAt): which keys have come; the laws of 'range' and 'next' at the operation. Plain lemmas; nothing of the program is named. -/
import Derived.Test.YtfkeelccnomjkaaDoorMapLib
import Derived.Maps.RangeWalk
namespace Go.Proofs.YtfkeelccnomjkaaDoor.M
open Go.MapKept Go.ChangeMaps Go.RowKit
open Go.Maps (Keyed)
set_option linter.unusedVariables false
/-- Block r is a loop under way over the map b, of which f tells the elements; the keys 'done' have come; cnt are still to come. -/
def RangeAt (w : World) (P : Program) (k : TypeId) (b r : Nat) (f : Value → Option Value) (n : Nat) (done : List Value) (cnt : Nat) : Prop :=
  ∃ es clock since seen c0, w.heap[b]? = some (.map es clock) ∧ Stamped es clock ∧ (∀ e ∈ es.toList, ∃ l, keyOf P k e.key = some l) ∧ es.size = n ∧
    (∀ x v, f x = some v ↔ ∃ e ∈ es.toList, e.key = x ∧ e.val = v) ∧ w.heap[r]? = some (.mapIter (some b) since seen c0) ∧ (∀ x ∈ es.toList, x.born < since) ∧ (leftOf es seen).size = cnt ∧
    since ≤ c0 ∧ since ≤ clock ∧ done.Nodup ∧ (∀ d ∈ done, (f d).isSome = true) ∧ ∀ x ∈ es.toList, x.key ∈ done ↔ seen.contains x.born = true
section
variable {P : Program} {k : TypeId} {w : World} {b r n : Nat} {f : Value → Option Value} {done : List Value} {cnt : Nat}
theorem RangeAt.map (h : RangeAt w P k b r f n done cnt) : MapAt w P k b f n := by
  obtain ⟨es, clock, since, seen, c0, hb, hs, hk, hn, hf, _⟩ := h
  exact ⟨es, clock, hb, hs, hk, hn, hf⟩
theorem RangeAt.ne (h : RangeAt w P k b r f n done cnt) : r ≠ b := by
  obtain ⟨es, clock, since, seen, c0, hb, _, _, _, _, hr, _⟩ := h
  intro e
  rw [e, hb] at hr
  cases hr
theorem RangeAt.lt (h : RangeAt w P k b r f n done cnt) : r < w.heap.size := by
  obtain ⟨es, clock, since, seen, c0, _, _, _, _, _, hr, _⟩ := h
  exact (Array.getElem?_eq_some_iff.1 hr).1
theorem RangeAt.nodup (h : RangeAt w P k b r f n done cnt) : done.Nodup := by
  obtain ⟨es, clock, since, seen, c0, h1, h2, h3, h4, h5, h6, h7, h8, h9, h10, h11, h12, h13⟩ := h
  exact h11
theorem RangeAt.sub (h : RangeAt w P k b r f n done cnt) : ∀ d ∈ done, (f d).isSome = true := by
  obtain ⟨es, clock, since, seen, c0, h1, h2, h3, h4, h5, h6, h7, h8, h9, h10, h11, h12, h13⟩ := h
  exact h12
theorem RangeAt.move {w' : World} (h : RangeAt w P k b r f n done cnt) (hb' : w'.heap[b]? = w.heap[b]?) (hr' : w'.heap[r]? = w.heap[r]?) : RangeAt w' P k b r f n done cnt := by
  obtain ⟨es, clock, since, seen, c0, hb, hs, hk, hn, hf, hr, rest⟩ := h
  exact ⟨es, clock, since, seen, c0, hb'.trans hb, hs, hk, hn, hf, hr'.trans hr, rest⟩
theorem RangeAt.kept {w' : World} {row : Option Nat} (h : RangeAt w P k b r f n done cnt) (hg : w.grownBy w' row) (hb' : some b ≠ row) (hr' : some r ≠ row) : RangeAt w' P k b r f n done cnt :=
  h.move (hg.block b h.map.lt hb') (hg.block r h.lt hr')
/-- 'range m'. -/
theorem MapAt.range (h : MapAt w P k b f n) {t e : TypeId} (ht : P.underlying t = some (.map k e)) :
    ∃ w', (Instr.range t (.map (some b))).run P w = .ok (.pointer (some ⟨w.heap.size, 0, none⟩)) w' ∧ RangeAt w' P k b w.heap.size f n [] n ∧ w.grownBy w' none ∧ w'.heap.size = w.heap.size + 1 := by
  have hlt := h.lt
  obtain ⟨es, clock, hb, hs, hk, hn, hf⟩ := h
  refine ⟨_, run_range_map w t k e b es clock ht hb, ⟨es, clock, clock, #[], clock, ((MapKept.heap_alloc w _).2 b hlt).trans hb, hs, hk, hn, hf, (MapKept.heap_alloc w _).1, hs.1, ?_, Nat.le_refl _, Nat.le_refl _, List.nodup_nil, fun d hd => absurd hd List.not_mem_nil, fun x hx => ?_⟩, World.grownBy_alloc w _ none, by simp⟩
  · subst hn; simp [leftOf]
  · simp
/-- The step. -/
theorem RangeAt.next (h : RangeAt w P k b r f n done cnt) (ty : TypeId) :
    (cnt = 0 ∧ (∀ x, x ∈ done ↔ (f x).isSome = true) ∧ (Instr.next (.pointer (some ⟨r, 0, none⟩)) false ty).run P w = .ok (.tuple #[.bool false]) w) ∨
    ∃ key v w' cnt', f key = some v ∧ key ∉ done ∧ (∃ l, keyOf P k key = some l) ∧ (Instr.next (.pointer (some ⟨r, 0, none⟩)) false ty).run P w = .ok (.tuple #[.bool true, key, v]) w' ∧
      RangeAt w' P k b r f n (done ++ [key]) cnt' ∧ cnt' < cnt ∧ w.grownBy w' (some r) ∧ w'.heap.size = w.heap.size ∧ (Instr.entry (.pointer (some ⟨r, 0, none⟩))).run P w' = .ok (.tuple #[key, v]) w' := by
  have hne := h.ne
  obtain ⟨es, clock, since, seen, c0, hb, hst, hk, hn, hf, hr, hold, rfl, hsc, hsk, hnd, hin, hseen⟩ := h
  have hs3 := (stamped_iff es clock).1 hst
  rcases run_next_at (P := P) w ty r b since c0 seen es clock hr hb hold hsc with ⟨h0, hrun⟩ | ⟨e, he, w1, hal, hrun⟩
  · refine Or.inl ⟨h0, fun x => ⟨hin x, fun hx => ?_⟩, hrun⟩
    obtain ⟨v, hv⟩ := Option.isSome_iff_exists.1 hx
    obtain ⟨e, he, rfl, _⟩ := (hf x v).1 hv
    exact (hseen e he).2 (all_seen es seen h0 e he)
  · obtain ⟨hem, hes⟩ := mem_left he
    have hr1 : w1.heap[r]? = some (.mapIter (some b) since seen c0) := by rcases hal with rfl | rfl <;> exact hr
    have hb1 : w1.heap[b]? = some (.map es clock) := by rcases hal with rfl | rfl <;> exact hb
    have hset := heap_set (o' := .mapIter (some b) since (seen.push e.born) clock) hr1
    have hb' : (setBlock w1 r (.mapIter (some b) since (seen.push e.born) clock)).heap[b]? = some (.map es clock) := (hset.2 b (fun e1 => hne e1.symm)).trans hb1
    have hnot : e.key ∉ done := fun hd => by rw [(hseen e hem).1 hd] at hes; cases hes
    have hfe : f e.key = some e.val := (hf _ _).2 ⟨e, hem, rfl, rfl⟩
    refine Or.inr ⟨e.key, e.val, _, _, hfe, hnot, hk e hem, hrun,
      ⟨es, clock, since, seen.push e.born, clock, hb', hst, hk, hn, hf, hset.1, hold, rfl, hsk, hsk, ?_, ?_, fun x hx => ?_⟩, left_shrinks es seen e he, ?_, ?_,
      run_entry_at _ r b since seen es clock e hset.1 hb' hem hs3.2.1⟩
    · rw [List.nodup_append]
      exact ⟨hnd, List.nodup_cons.2 ⟨List.not_mem_nil, List.nodup_nil⟩, fun a ha c hc e1 => by
        rw [List.mem_singleton] at hc; subst hc; subst e1; exact hnot ha⟩
    · intro d hd
      rcases List.mem_append.1 hd with hd | hd
      · exact hin d hd
      · rw [List.mem_singleton] at hd; subst hd; rw [hfe]; rfl
    · rw [List.mem_append, hseen x hx, contains_push, List.mem_singleton]
      constructor
      · rintro (h1 | h1)
        · rw [h1]; rfl
        · rw [entry_eq_of_key hs3.2.2 hx hem h1]; simp
      · intro h1
        cases h2 : seen.contains x.born
        · rw [h2] at h1
          right
          have h3 : x.born = e.born := by simpa using h1
          rw [born_inj hs3.2.1 hx hem h3]
        · exact .inl rfl
    · rcases hal with rfl | rfl <;> exact ⟨rfl, rfl, rfl, by simp [setBlock], fun i _ hi => hset.2 i (fun e1 => hi (by rw [e1]))⟩
    · rcases hal with rfl | rfl <;> simp [setBlock]
end
section
variable {P : Program} {w : World} {ops : Array Oper} {rest : List Oper} {o : Oper} {a : Act} {Q : Exit → Act → World → Prop}
theorem wpList_range (hg : o.guard = none) (m : Operand) (t : TypeId) (hop : o.op = Op.range t m) (k e : TypeId) (ht : P.underlying t = some (.map k e)) (b n : Nat) (f : Value → Option Value)
    (hm : a.eval m = .map (some b)) (hown : MapAt w P k b f n)
    (hK : ∀ w', RangeAt w' P k b w.heap.size f n [] n → w.grownBy w' none → w'.heap.size = w.heap.size + 1 → wpList P ops Q rest (a.put o.dst (.pointer (some ⟨w.heap.size, 0, none⟩))) w') :
    wpList P ops Q (o :: rest) a w := by
  refine wpList_plain hg fun K' hK' => ?_
  obtain ⟨w', hrun, r1, r2, r3⟩ := hown.range ht
  unfold Oper.wp
  simp [execOp, hop, hm, hrun, Result.andThen]
  exact hK' _ _ (hK w' r1 r2 r3)
theorem wpList_next (hg : o.guard = none) (it : Operand) (hop : o.op = Op.next it false) (k : TypeId) (b r n : Nat) (f : Value → Option Value) (done : List Value) (cnt : Nat)
    (hit : a.eval it = .pointer (some ⟨r, 0, none⟩)) (h : RangeAt w P k b r f n done cnt)
    (hDone : cnt = 0 → (∀ x, x ∈ done ↔ (f x).isSome = true) → wpList P ops Q rest (a.put o.dst (.tuple #[.bool false])) w)
    (hMore : ∀ (key v : Value) (w' : World) (cnt' : Nat), f key = some v → key ∉ done → (∃ l, keyOf P k key = some l) → RangeAt w' P k b r f n (done ++ [key]) cnt' → cnt' < cnt →
      w.grownBy w' (some r) → w'.heap.size = w.heap.size → (Instr.entry (.pointer (some ⟨r, 0, none⟩))).run P w' = .ok (.tuple #[key, v]) w' → wpList P ops Q rest (a.put o.dst (.tuple #[.bool true, key, v])) w') :
    wpList P ops Q (o :: rest) a w := by
  refine wpList_plain hg fun K' hK' => ?_
  unfold Oper.wp
  rcases h.next o.type with ⟨h0, hl, hrun⟩ | ⟨key, v, w', cnt', hf, hnot, hkey, hrun, hrg, hlt, hgr, hsz, hen⟩
  · simp [execOp, hop, hit, hrun, Result.andThen]
    exact hK' _ _ (hDone h0 hl)
  · simp [execOp, hop, hit, hrun, Result.andThen]
    exact hK' _ _ (hMore key v w' cnt' hf hnot hkey hrg hlt hgr hsz hen)
end
end Go.Proofs.YtfkeelccnomjkaaDoor.M
