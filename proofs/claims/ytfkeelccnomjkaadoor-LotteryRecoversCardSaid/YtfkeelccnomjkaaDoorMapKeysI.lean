/- A map's keys that are ints, and lists of ints in strict order: plain lemmas; nothing of the program is named. -/
import Derived.Test.YtfkeelccnomjkaaDoorMapLib
import Derived.Lib.SlKeysI
import Derived.Maps.Range
namespace Go.Proofs.YtfkeelccnomjkaaDoor.M
open Go.MapKept Go.ChangeMaps Go.RowKit
open Go.Maps (Keyed)
set_option linter.unusedVariables false

section
variable {P : Program} {k : TypeId} {w : World} {b n : Nat} {f : Value → Option Value}
/-- The keys of a map whose keys are ints, as the library's contracts tell them. -/
theorem MapAt.keysInt (h : MapAt w P k b f n) (hn : n ≤ maxLen) (hk : P.underlying k = some (.int .i64)) :
    ∃ D : DataW Unit, w.ownsMap P k (fun _ => some (.nil, [])) b n D ∧ Maps.size D = n ∧ (Go.intKeys D).Nodup ∧ ∀ x, x ∈ Go.intKeys D ↔ (f (.int .i64 x)).isSome = true := by
  obtain ⟨es, clock, hb, hs, hkk, hn', hf⟩ := h
  have hrg : ∀ e ∈ es.toList, ∃ x, e.key = encZ x ∧ (Go.WideElems.rg P k (fun _ => some ((.nil : DataW Unit), [])) e).1 = .int .i64 x := by
    intro e he
    obtain ⟨l, hl⟩ := hkk e he
    obtain ⟨x, hx, rfl, _⟩ := Maps.keyOf_i64 hk hl
    exact ⟨x, hx, by simp [Go.WideElems.rg, Go.WideElems.rd, hl]⟩
  have hp : (Go.intKeys (H := Unit) (.map ((es.toList.map (Go.WideElems.rg P k (fun _ => some ((.nil : DataW Unit), [])))).foldr DataW.insert []))).Perm (es.toList.map fun e => intOf (Go.WideElems.rg P k (fun _ => some ((.nil : DataW Unit), [])) e).1) := by
    have := (Go.WideShapes.sorted_perm (es.toList.map (Go.WideElems.rg P k (fun _ => some ((.nil : DataW Unit), []))))).map (fun p => intOf p.1)
    rw [List.map_map] at this
    exact this
  refine ⟨_, ⟨es, clock, hb, ⟨by omega, hs, fun x hx => ?_⟩, by omega, rfl⟩, ?_, ?_, ?_⟩
  · obtain ⟨l, hl⟩ := hkk x hx
    exact ⟨(l, .nil), by simp [Go.WideElems.rd, hl]⟩
  · simp [Maps.size, length_sorted, hn']
  · rw [hp.nodup_iff]
    have hn : es.toList.Pairwise (fun x y => x.key ≠ y.key) := ((stamped_iff es clock).1 hs).2.2
    refine List.pairwise_map.2 (hn.imp_of_mem fun {x y} hx hy hne e => hne ?_)
    obtain ⟨a, h1, h2⟩ := hrg x hx
    obtain ⟨c, h3, h4⟩ := hrg y hy
    rw [h2, h4] at e
    rw [h1, h3]; simp only [intOf] at e; rw [e]
  · intro x
    rw [hp.mem_iff, List.mem_map]
    constructor
    · rintro ⟨e, he, h1⟩
      obtain ⟨a, h2, h3⟩ := hrg e he
      rw [h3] at h1
      simp only [intOf] at h1
      subst h1
      show (f (encZ a)).isSome = true
      rw [← h2, (hf e.key e.val).2 ⟨e, he, rfl, rfl⟩]; rfl
    · intro hx
      obtain ⟨v, hv⟩ := Option.isSome_iff_exists.1 hx
      obtain ⟨e, he, h1, _⟩ := (hf _ v).1 hv
      obtain ⟨a, h2, h3⟩ := hrg e he
      refine ⟨e, he, ?_⟩
      rw [h3]
      rw [h1] at h2
      exact (encZ_inj h2).symm
end

/-- Ints in strict order. -/
def RisI (l : List Int) : Prop := l.Pairwise (· < ·)
theorem RisI.nodup {l : List Int} (h : RisI l) : l.Nodup := h.imp (fun {a c} (hab : a < c) (e : a = c) => by omega)
theorem RisI.ext {l m : List Int} (hl : RisI l) (hm : RisI m) (h : ∀ x, x ∈ l ↔ x ∈ m) : l = m := by
  refine List.Perm.eq_of_pairwise (le := (· < ·)) (fun a b _ _ h1 h2 => absurd h2 (by show ¬ b < a; have : a < b := h1; omega)) hl hm ?_
  exact (List.perm_ext_iff_of_nodup hl.nodup hm.nodup).2 h
/-- An int put among ints in order, unless it is there. -/
def putI : List Int → Int → List Int
  | [], s => [s]
  | a :: l, s => if s < a then s :: a :: l else if s = a then a :: l else a :: putI l s
theorem mem_putI (x : Int) : ∀ (l : List Int) (s : Int), x ∈ putI l s ↔ x = s ∨ x ∈ l
  | [], s => by simp [putI]
  | a :: l, s => by
    have ih := mem_putI x l s
    unfold putI
    split
    · simp
    · split
      · rename_i h; subst h; simp
      · rw [List.mem_cons, ih, List.mem_cons]
        constructor
        · rintro (h | h | h) <;> simp [h]
        · rintro (h | h | h) <;> simp [h]
theorem ris_putI : ∀ (l : List Int) (s : Int), RisI l → RisI (putI l s)
  | [], s, _ => by simp [putI, RisI]
  | a :: l, s, h => by
    have h1 := List.pairwise_cons.1 h
    unfold putI
    split
    · rename_i hs
      refine List.pairwise_cons.2 ⟨fun x hx => ?_, h⟩
      rcases List.mem_cons.1 hx with rfl | hx
      · exact hs
      · exact Int.lt_trans hs (h1.1 x hx)
    · split
      · exact h
      · rename_i h2 h3
        refine List.pairwise_cons.2 ⟨fun x hx => ?_, ris_putI l s h1.2⟩
        rcases (mem_putI x l s).1 hx with rfl | hx
        · show a < x; omega
        · exact h1.1 x hx
theorem len_putI : ∀ (l : List Int) (s : Int), RisI l → (putI l s).length = if s ∈ l then l.length else l.length + 1
  | [], s, _ => by simp [putI]
  | a :: l, s, h => by
    have h1 := List.pairwise_cons.1 h
    unfold putI
    split
    · rename_i hs
      have : s ∉ a :: l := by
        intro hm
        rcases List.mem_cons.1 hm with rfl | hm
        · omega
        · have : a < s := h1.1 s hm; omega
      rw [if_neg this]; rfl
    · split
      · rename_i h2; rw [if_pos (show s ∈ a :: l by rw [h2]; exact List.mem_cons_self)]
      · rename_i h2 h3
        have ih := len_putI l s h1.2
        rw [List.length_cons, ih]
        by_cases hm : s ∈ l
        · rw [if_pos hm, if_pos (List.mem_cons_of_mem _ hm)]; rfl
        · rw [if_neg hm, if_neg (by intro h4; rcases List.mem_cons.1 h4 with h4 | h4; exact h3 h4; exact hm h4)]; rfl

/-- The keys sorted: the ints in order. -/
theorem sort_ints {ss ns : List Int} (hnd : ss.Nodup) (hr : RisI ns) (hm : ∀ x : Int, x ∈ ss ↔ x ∈ ns) :
    (ss.mergeSort (fun x y => decide (x ≤ y))) = ns ∧ ss.length = ns.length := by
  have hperm : ss.Perm ns := (List.perm_ext_iff_of_nodup hnd hr.nodup).2 hm
  have hsort : ns.mergeSort leI = ns := by
    refine List.mergeSort_of_pairwise (hr.imp fun {a b} h => ?_)
    have : a < b := h
    simp only [leI, decide_eq_true_eq]
    omega
  refine ⟨?_, hperm.length_eq⟩
  show ss.mergeSort leI = _
  rw [mergeSort_of_perm_i hperm, hsort]
end Go.Proofs.YtfkeelccnomjkaaDoor.M
