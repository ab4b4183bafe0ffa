/- A map's keys that are strings, and lists of names in strict order: plain lemmas; nothing of the program is named. -/
import Derived.Test.YtnheelncgpgkiaaMapLib
import Derived.Sort.KeysCollected
import Derived.Sort.Walk0
import Derived.Maps.Range
namespace Go.Proofs.Ytnheelncgpgkiaa.M
open Go.MapKept Go.ChangeMaps Go.RowKit
open Go.Maps (Keyed)
set_option linter.unusedVariables false

section
variable {P : Program} {k : TypeId} {w : World} {b n : Nat} {f : Value → Option Value}
/-- The keys of a map whose keys are strings, as the library's contracts tell them. -/
theorem MapAt.keysStr (h : MapAt w P k b f n) (hn : n ≤ maxLen) (hk : P.underlying k = some .string) :
    ∃ D : DataW Unit, w.ownsMap P k (fun _ => some (.nil, [])) b n D ∧ Maps.size D = n ∧ (Go.strKeys D).Nodup ∧ ∀ x, x ∈ Go.strKeys D ↔ (f (encStr x)).isSome = true := by
  obtain ⟨es, clock, hb, hs, hkk, hn', hf⟩ := h
  have hrg : ∀ e ∈ es.toList, ∃ x, e.key = encStr x ∧ (Go.WideElems.rg P k (fun _ => some ((.nil : DataW Unit), [])) e).1 = .string x := by
    intro e he
    obtain ⟨l, hl⟩ := hkk e he
    obtain ⟨x, hx, rfl, _⟩ := Maps.keyOf_str hk hl
    exact ⟨x, hx, by simp [Go.WideElems.rg, Go.WideElems.rd, hl]⟩
  have hp : (Go.strKeys (H := Unit) (.map ((es.toList.map (Go.WideElems.rg P k (fun _ => some ((.nil : DataW Unit), [])))).foldr DataW.insert []))).Perm (es.toList.map fun e => strOf (Go.WideElems.rg P k (fun _ => some ((.nil : DataW Unit), [])) e).1) := by
    have := (Go.WideShapes.sorted_perm (es.toList.map (Go.WideElems.rg P k (fun _ => some ((.nil : DataW Unit), []))))).map (fun p => strOf p.1)
    rw [List.map_map] at this
    exact this
  refine ⟨_, ⟨es, clock, hb, ⟨by omega, hs, fun x hx => ?_⟩, by omega, rfl⟩, ?_, ?_, ?_⟩
  · obtain ⟨l, hl⟩ := hkk x hx
    exact ⟨(l, .nil), by simp [Go.WideElems.rd, hl]⟩
  · simp [Maps.size, length_sorted, hn']
  · rw [hp.nodup_iff]
    have hn : es.toList.Pairwise (fun x y => x.key ≠ y.key) := ((stamped_iff es clock).1 hs).2.2
    refine List.pairwise_map.2 (hn.imp_of_mem fun {x y} hx hy hne e => hne ?_)
    obtain ⟨a, h1, h2⟩ := hrg x hx
    obtain ⟨c, h3, h4⟩ := hrg y hy
    rw [h2, h4] at e
    rw [h1, h3]; simp only [strOf] at e; rw [e]
  · intro x
    rw [hp.mem_iff, List.mem_map]
    constructor
    · rintro ⟨e, he, h1⟩
      obtain ⟨a, h2, h3⟩ := hrg e he
      rw [h3] at h1
      simp only [strOf] at h1
      subst h1
      rw [← h2, (hf e.key e.val).2 ⟨e, he, rfl, rfl⟩]; rfl
    · intro hx
      obtain ⟨v, hv⟩ := Option.isSome_iff_exists.1 hx
      obtain ⟨e, he, h1, _⟩ := (hf _ v).1 hv
      obtain ⟨a, h2, h3⟩ := hrg e he
      refine ⟨e, he, ?_⟩
      rw [h3]
      rw [h1] at h2
      exact (encStr_inj h2).symm
end

noncomputable instance memDec (s : ByteArray) (l : List ByteArray) : Decidable (s ∈ l) := Classical.propDecidable _
/-- Names in strict order. -/
def ltN (a b : ByteArray) : Prop := a.data.toList < b.data.toList
instance (a b : ByteArray) : Decidable (ltN a b) := inferInstanceAs (Decidable (a.data.toList < b.data.toList))
def RisN (l : List ByteArray) : Prop := l.Pairwise ltN
theorem data_inj {a b : ByteArray} (h : a.data.toList = b.data.toList) : a = b := by
  cases a; cases b
  simp only [Array.toList_inj] at h
  rw [h]
theorem ltN_trans {a b c : ByteArray} (h : ltN a b) (h' : ltN b c) : ltN a c := List.lt_trans h h'
theorem ltN_irrefl (a : ByteArray) : ¬ ltN a a := List.lt_irrefl _
theorem ltN_asymm {a b : ByteArray} (h : ltN a b) : ¬ ltN b a := fun h' => ltN_irrefl a (ltN_trans h h')
theorem ltN_tri (a b : ByteArray) : ltN a b ∨ a = b ∨ ltN b a := by
  by_cases h : ltN a b
  · exact .inl h
  · by_cases h' : ltN b a
    · exact .inr (.inr h')
    · exact .inr (.inl (data_inj (List.le_antisymm (List.not_lt.1 h') (List.not_lt.1 h))))
theorem ltN_bytes (a b : ByteArray) : Op.bytesLess a.toList b.toList = decide (ltN a b) := by
  rw [bytesLess_eq, ByteArray.toList_eq, ByteArray.toList_eq]; rfl
theorem eq_bytes (a b : ByteArray) : (a.toList == b.toList) = decide (a = b) := by
  rw [ByteArray.toList_eq, ByteArray.toList_eq]
  by_cases h : a = b
  · subst h; simp
  · rw [decide_eq_false h, beq_eq_false_iff_ne]
    exact fun e => h (data_inj e)
theorem eq_bytes' (a b : ByteArray) : a.toList = b.toList ↔ a = b := by
  have := eq_bytes a b
  rw [Bool.eq_iff_iff, beq_iff_eq, decide_eq_true_eq] at this
  exact this
theorem RisN.nodup {l : List ByteArray} (h : RisN l) : l.Nodup := h.imp (fun {a c} (hab : ltN a c) (e : a = c) => ltN_irrefl c (e ▸ hab))
theorem RisN.ext {l m : List ByteArray} (hl : RisN l) (hm : RisN m) (h : ∀ x, x ∈ l ↔ x ∈ m) : l = m := by
  refine List.Perm.eq_of_pairwise (le := ltN) (fun a b _ _ h1 h2 => absurd h2 (ltN_asymm h1)) hl hm ?_
  exact (List.perm_ext_iff_of_nodup hl.nodup hm.nodup).2 h
/-- A name put among names in order, unless it is there. -/
def putN : List ByteArray → ByteArray → List ByteArray
  | [], s => [s]
  | a :: l, s => if ltN s a then s :: a :: l else if s = a then a :: l else a :: putN l s
theorem mem_putN (x : ByteArray) : ∀ (l : List ByteArray) (s : ByteArray), x ∈ putN l s ↔ x = s ∨ x ∈ l
  | [], s => by simp [putN]
  | a :: l, s => by
    have ih := mem_putN x l s
    unfold putN
    split
    · simp
    · split
      · rename_i h; subst h; simp
      · rw [List.mem_cons, ih, List.mem_cons]
        constructor
        · rintro (h | h | h) <;> simp [h]
        · rintro (h | h | h) <;> simp [h]
theorem ris_putN : ∀ (l : List ByteArray) (s : ByteArray), RisN l → RisN (putN l s)
  | [], s, _ => by simp [putN, RisN]
  | a :: l, s, h => by
    have h1 := List.pairwise_cons.1 h
    unfold putN
    split
    · rename_i hs
      refine List.pairwise_cons.2 ⟨fun x hx => ?_, h⟩
      rcases List.mem_cons.1 hx with rfl | hx
      · exact hs
      · exact ltN_trans hs (h1.1 x hx)
    · split
      · exact h
      · rename_i h2 h3
        refine List.pairwise_cons.2 ⟨fun x hx => ?_, ris_putN l s h1.2⟩
        rcases (mem_putN x l s).1 hx with rfl | hx
        · rcases ltN_tri x a with h4 | h4 | h4
          · exact absurd h4 h2
          · exact absurd h4 h3
          · exact h4
        · exact h1.1 x hx
theorem len_putN : ∀ (l : List ByteArray) (s : ByteArray), RisN l → (putN l s).length = if s ∈ l then l.length else l.length + 1
  | [], s, _ => by simp [putN]
  | a :: l, s, h => by
    have h1 := List.pairwise_cons.1 h
    unfold putN
    split
    · rename_i hs
      have : s ∉ a :: l := by
        intro hm
        rcases List.mem_cons.1 hm with rfl | hm
        · exact ltN_irrefl _ hs
        · exact ltN_asymm hs (h1.1 s hm)
      rw [if_neg this]; rfl
    · split
      · rename_i h2; rw [if_pos (show s ∈ a :: l by rw [h2]; exact List.mem_cons_self)]
      · rename_i h2 h3
        have ih := len_putN l s h1.2
        rw [List.length_cons, ih]
        by_cases hm : s ∈ l
        · rw [if_pos hm, if_pos (List.mem_cons_of_mem _ hm)]; rfl
        · rw [if_neg hm, if_neg (by intro h4; rcases List.mem_cons.1 h4 with h4 | h4; exact h3 h4; exact hm h4)]; rfl
/-- The map that says of each name that it is there. -/
noncomputable def memF (l : List ByteArray) : ByteArray → Option Bool := fun s => if s ∈ l then some true else none
theorem memF_put (l : List ByteArray) (s : ByteArray) : (fun j => if j = s then some true else memF l j) = memF (putN l s) := by
  funext j
  unfold memF
  by_cases h : j = s
  · rw [if_pos h, if_pos ((mem_putN j l s).2 (.inl h))]
  · rw [if_neg h]
    by_cases h2 : j ∈ l
    · rw [if_pos h2, if_pos ((mem_putN j l s).2 (.inr h2))]
    · rw [if_neg h2, if_neg]
      intro h3
      rcases (mem_putN j l s).1 h3 with h3 | h3
      · exact h h3
      · exact h2 h3
theorem memF_len {l : List ByteArray} (h : RisN l) (s : ByteArray) : (if (memF l s).isSome then l.length else l.length + 1) = (putN l s).length := by
  rw [len_putN l s h]
  unfold memF
  by_cases h2 : s ∈ l
  · rw [if_pos h2, if_pos h2]; rfl
  · rw [if_neg h2, if_neg h2]; rfl
def putNs (l ss : List ByteArray) : List ByteArray := ss.foldl putN l
theorem ris_putNs : ∀ (ss l : List ByteArray), RisN l → RisN (putNs l ss)
  | [], l, h => h
  | s :: ss, l, h => ris_putNs ss (putN l s) (ris_putN l s h)
theorem mem_putNs (x : ByteArray) : ∀ (ss l : List ByteArray), x ∈ putNs l ss ↔ x ∈ l ∨ x ∈ ss
  | [], l => by simp [putNs]
  | s :: ss, l => by
    show x ∈ putNs (putN l s) ss ↔ _
    rw [mem_putNs x ss (putN l s), mem_putN, List.mem_cons]
    constructor
    · rintro ((h | h) | h) <;> simp [h]
    · rintro (h | h | h) <;> simp [h]

/-- The keys sorted: the names in order. -/
theorem sort_names {ss : List (List UInt8)} {ns : List ByteArray} (hnd : ss.Nodup) (hr : RisN ns) (hm : ∀ x : List UInt8, x ∈ ss ↔ (⟨x.toArray⟩ : ByteArray) ∈ ns) :
    (ss.mergeSort (fun x y => decide (x ≤ y))).map encStr = ns.map Value.string ∧ ss.length = ns.length := by
  have hd : ∀ x : List UInt8, (⟨x.toArray⟩ : ByteArray).data.toList = x := fun x => rfl
  have hperm : ss.Perm (ns.map fun s => s.data.toList) := by
    refine (List.perm_ext_iff_of_nodup hnd ?_).2 fun x => ?_
    · exact List.pairwise_map.2 (hr.nodup.imp fun hne e => hne (data_inj e))
    · rw [hm x, List.mem_map]
      constructor
      · intro h; exact ⟨_, h, rfl⟩
      · rintro ⟨s, hs, rfl⟩; exact hs
  have hsort : (ns.map fun s => s.data.toList).mergeSort leB = ns.map fun s => s.data.toList := by
    refine List.mergeSort_of_pairwise (List.pairwise_map.2 (hr.imp fun h => ?_))
    simp only [leB, decide_eq_true_eq]
    exact List.le_of_lt h
  refine ⟨?_, by rw [hperm.length_eq, List.length_map]⟩
  show (ss.mergeSort leB).map encStr = _
  rw [mergeSort_of_perm hperm, hsort, List.map_map]
  rfl
end Go.Proofs.Ytnheelncgpgkiaa.M
