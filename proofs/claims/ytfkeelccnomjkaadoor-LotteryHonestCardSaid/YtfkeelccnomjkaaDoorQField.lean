/- Plain facts on numbers modulo a prime: Fermat's little theorem, polynomials and their roots, Lagrange's interpolation. -/
namespace Go.Proofs.YtfkeelccnomjkaaDoor.QF
set_option linter.unusedVariables false
set_option linter.unusedSimpArgs false

/-- Two numbers are the same modulo p. -/
def Cg (p : Nat) (a b : Int) : Prop := (p : Int) ∣ a - b
theorem Cg.refl (p : Nat) (a : Int) : Cg p a a := by unfold Cg; rw [Int.sub_self]; exact Int.dvd_zero _
theorem Cg.of_eq {p : Nat} {a b : Int} (h : a = b) : Cg p a b := h ▸ Cg.refl p a
theorem Cg.symm {p : Nat} {a b : Int} (h : Cg p a b) : Cg p b a := by
  unfold Cg at *; rw [show b - a = -(a - b) by omega]; exact Int.dvd_neg.2 h
theorem Cg.trans {p : Nat} {a b c : Int} (h : Cg p a b) (k : Cg p b c) : Cg p a c := by
  unfold Cg at *; rw [show a - c = (a - b) + (b - c) by omega]; exact Int.dvd_add h k
theorem Cg.add {p : Nat} {a b c d : Int} (h : Cg p a b) (k : Cg p c d) : Cg p (a + c) (b + d) := by
  unfold Cg at *; rw [show a + c - (b + d) = (a - b) + (c - d) by omega]; exact Int.dvd_add h k
theorem Cg.sub {p : Nat} {a b c d : Int} (h : Cg p a b) (k : Cg p c d) : Cg p (a - c) (b - d) := by
  unfold Cg at *; rw [show a - c - (b - d) = (a - b) - (c - d) by omega]; exact Int.dvd_sub h k
theorem Cg.mul {p : Nat} {a b c d : Int} (h : Cg p a b) (k : Cg p c d) : Cg p (a * c) (b * d) := by
  unfold Cg at *
  rw [show a * c - b * d = (a - b) * c + b * (c - d) by rw [Int.sub_mul, Int.mul_sub]; omega]
  exact Int.dvd_add (Int.dvd_trans h (Int.dvd_mul_right _ _)) (Int.dvd_trans k (Int.dvd_mul_left _ _))
theorem Cg.mod (p : Nat) (a : Int) : Cg p (a % p) a := by
  unfold Cg
  have h := Int.mul_ediv_add_emod a p
  rw [show a % (p : Int) - a = (p : Int) * (-(a / p)) by rw [Int.mul_neg]; omega]
  exact Int.dvd_mul_right _ _
theorem Cg.emod {p : Nat} {a b : Int} (h : Cg p a b) : a % p = b % p := Int.emod_eq_emod_iff_emod_sub_eq_zero.2 (Int.emod_eq_zero_of_dvd h)
theorem Cg.of_emod {p : Nat} {a b : Int} (h : a % p = b % p) : Cg p a b := Int.dvd_of_emod_eq_zero (Int.emod_eq_emod_iff_emod_sub_eq_zero.1 h)
theorem Cg.zero {p : Nat} {a : Int} : Cg p a 0 ↔ (p : Int) ∣ a := by unfold Cg; rw [Int.sub_zero]
theorem Cg.pow {p : Nat} {a b : Int} (h : Cg p a b) : ∀ n : Nat, Cg p (a ^ n) (b ^ n)
  | 0 => by rw [Int.pow_zero, Int.pow_zero]; exact Cg.refl _ _
  | n + 1 => by rw [Int.pow_succ, Int.pow_succ]; exact (Cg.pow h n).mul h
/-- Residues that are the same modulo p are the same. -/
theorem Cg.eq {p : Nat} {a b : Int} (h : Cg p a b) (ha : 0 ≤ a ∧ a < p) (hb : 0 ≤ b ∧ b < p) : a = b := by
  have := h.emod
  rwa [Int.emod_eq_of_lt ha.1 ha.2, Int.emod_eq_of_lt hb.1 hb.2] at this

/-- A prime. -/
structure Pr (p : Nat) : Prop where
  two : 2 ≤ p
  only : ∀ d : Nat, d ∣ p → d = 1 ∨ d = p
theorem Pr.nat {p : Nat} (h : Pr p) {a b : Nat} (hd : p ∣ a * b) : p ∣ a ∨ p ∣ b := by
  by_cases ha : p ∣ a
  · exact .inl ha
  · right
    have hc : Nat.Coprime p a := by
      rcases h.only (Nat.gcd p a) (Nat.gcd_dvd_left p a) with e | e
      · exact e
      · exact absurd (e ▸ Nat.gcd_dvd_right p a) ha
    exact hc.dvd_of_dvd_mul_left hd
theorem Pr.mul {p : Nat} (h : Pr p) {a b : Int} (hd : (p : Int) ∣ a * b) : (p : Int) ∣ a ∨ (p : Int) ∣ b := by
  rw [Int.ofNat_dvd_left, Int.natAbs_mul] at hd
  rcases h.nat hd with h1 | h1
  · exact .inl (Int.ofNat_dvd_left.2 h1)
  · exact .inr (Int.ofNat_dvd_left.2 h1)
theorem Pr.cancel {p : Nat} (h : Pr p) {a b c : Int} (hc : ¬ (p : Int) ∣ c) (hm : Cg p (a * c) (b * c)) : Cg p a b := by
  unfold Cg at *
  rw [← Int.sub_mul] at hm
  exact (h.mul hm).resolve_right hc
theorem Pr.mul_ne {p : Nat} (h : Pr p) {a b : Int} (ha : ¬ (p : Int) ∣ a) (hb : ¬ (p : Int) ∣ b) : ¬ (p : Int) ∣ a * b := fun e => (h.mul e).elim ha hb

/-! ### Products -/
def prodL : List Int → Int
  | [] => 1
  | x :: l => x * prodL l
theorem prodL_append (l m : List Int) : prodL (l ++ m) = prodL l * prodL m := by
  induction l with
  | nil => simp [prodL]
  | cons a l ih => simp only [List.cons_append, prodL, ih, Int.mul_assoc]
theorem prodL_perm {l m : List Int} (h : l.Perm m) : prodL l = prodL m := by
  induction h with
  | nil => rfl
  | cons a _ ih => simp only [prodL, ih]
  | swap a b l => simp only [prodL]; rw [← Int.mul_assoc, ← Int.mul_assoc, Int.mul_comm a b]
  | trans _ _ h1 h2 => exact h1.trans h2
theorem prodL_ne {p : Nat} (h : Pr p) : ∀ {l : List Int}, (∀ x ∈ l, ¬ (p : Int) ∣ x) → ¬ (p : Int) ∣ prodL l
  | [], _ => fun e => by
    have h1 : (p : Int) ∣ 1 := e
    have := Int.le_of_dvd (by omega) h1
    have := h.two
    omega
  | x :: l, hl => h.mul_ne (hl x (by simp)) (prodL_ne h (fun y hy => hl y (by simp [hy])))
theorem prodL_zero : ∀ {l : List Int}, (0 : Int) ∈ l → prodL l = 0
  | x :: l, h => by
    rcases List.mem_cons.1 h with e | e
    · rw [← e]; simp [prodL]
    · simp [prodL, prodL_zero e]
theorem prodL_map_cg {p : Nat} {α : Type} {f g : α → Int} : ∀ {l : List α}, (∀ x ∈ l, Cg p (f x) (g x)) → Cg p (prodL (l.map f)) (prodL (l.map g))
  | [], _ => Cg.refl _ _
  | x :: l, h => (h x (by simp)).mul (prodL_map_cg (fun y hy => h y (by simp [hy])))
theorem perm_of {α : Type} [DecidableEq α] : ∀ (l m : List α), l.Nodup → (∀ x ∈ l, x ∈ m) → m.length ≤ l.length → l.Perm m
  | [], m, _, _, hl => by
    have : m = [] := List.eq_nil_of_length_eq_zero (by simpa using hl)
    rw [this]
  | a :: l, m, hn, hs, hl => by
    have ha := hs a (by simp)
    have hn' := List.nodup_cons.1 hn
    refine ((perm_of l (m.erase a) hn'.2 (fun x hx => ?_) ?_).cons a).trans (List.perm_cons_erase ha).symm
    · exact (List.mem_erase_of_ne (fun e : x = a => hn'.1 (by rw [← e]; exact hx))).2 (hs x (by simp [hx]))
    · rw [List.length_erase_of_mem ha]
      simp only [List.length_cons] at hl
      omega

/-! ### Fermat -/
theorem fermat_prod {p : Nat} (a : Int) : ∀ l : List Int, Cg p (prodL (l.map fun x => a * x % p)) (a ^ l.length * prodL l)
  | [] => Cg.of_eq (by simp [prodL])
  | x :: l => by
    have h := (Cg.mod p (a * x)).mul (fermat_prod (p := p) a l)
    refine h.trans (Cg.of_eq ?_)
    show a * x * (a ^ l.length * prodL l) = a ^ (l.length + 1) * (x * prodL l)
    rw [Int.pow_succ]
    simp only [Int.mul_assoc, Int.mul_comm, Int.mul_left_comm]
theorem fermat {p : Nat} (h : Pr p) {a : Int} (ha : ¬ (p : Int) ∣ a) : Cg p (a ^ (p - 1)) 1 := by
  have h2 := h.two
  have hL : ∀ x ∈ (List.range (p - 1)).map (fun i : Nat => (i : Int) + 1), 1 ≤ x ∧ x < p := by
    intro x hx
    obtain ⟨i, hi, rfl⟩ := List.mem_map.1 hx
    have := List.mem_range.1 hi
    omega
  have hmem : ∀ x : Int, 1 ≤ x → x < p → x ∈ (List.range (p - 1)).map (fun i : Nat => (i : Int) + 1) := by
    intro x h1 h3
    exact List.mem_map.2 ⟨(x - 1).toNat, List.mem_range.2 (by omega), by omega⟩
  have hnd : ((List.range (p - 1)).map (fun i : Nat => (i : Int) + 1)).Nodup := by
    show List.Pairwise _ _
    rw [List.pairwise_map]
    exact List.Pairwise.imp (fun {i j} hij => by omega) (List.nodup_range (n := p - 1))
  have hlen : ((List.range (p - 1)).map (fun i : Nat => (i : Int) + 1)).length = p - 1 := by simp
  have hnot : ∀ x : Int, 1 ≤ x → x < p → ¬ (p : Int) ∣ x := fun x h1 h3 e => by
    have := Int.le_of_dvd (by omega) e
    omega
  generalize (List.range (p - 1)).map (fun i : Nat => (i : Int) + 1) = L at *
  have hperm : (L.map fun x => a * x % p).Perm L := by
    refine perm_of _ _ ?_ ?_ (by simp)
    · show List.Pairwise _ _
      rw [List.pairwise_map]
      refine List.Pairwise.imp_of_mem (fun {x y} hx hy hxy e => hxy ?_) hnd
      have h1 : Cg p (x * a) (y * a) := by rw [Int.mul_comm x, Int.mul_comm y]; exact Cg.of_emod e
      have hx' := hL x hx
      have hy' := hL y hy
      exact (h.cancel ha h1).eq (by omega) (by omega)
    · intro y hy
      obtain ⟨x, hx, rfl⟩ := List.mem_map.1 hy
      have hx' := hL x hx
      have h1 := Int.emod_nonneg (a * x) (show (p : Int) ≠ 0 by omega)
      have h3 := Int.emod_lt_of_pos (a * x) (show (0 : Int) < p by omega)
      refine hmem _ ?_ h3
      have h4 : a * x % p ≠ 0 := fun e => h.mul_ne ha (hnot x hx'.1 hx'.2) (Int.dvd_of_emod_eq_zero e)
      omega
  have hp := fermat_prod (p := p) a L
  rw [prodL_perm hperm, hlen] at hp
  refine (h.cancel (c := prodL L) (prodL_ne h (fun x hx => hnot x (hL x hx).1 (hL x hx).2)) ?_).symm
  rw [Int.one_mul]; exact hp
/-- The inverse. -/
theorem inv_ok {p : Nat} (h : Pr p) {a : Int} (ha : ¬ (p : Int) ∣ a) : Cg p (a * a ^ (p - 2)) 1 := by
  have := fermat h ha
  have h2 := h.two
  rw [show p - 1 = (p - 2) + 1 by omega, Int.pow_succ, Int.mul_comm] at this
  exact this

/-! ### Polynomials: the coefficients, the constant one first -/
def ev : List Int → Int → Int
  | [], _ => 0
  | c :: l, x => c + x * ev l x
def padd : List Int → List Int → List Int
  | [], m => m
  | l, [] => l
  | a :: l, b :: m => (a + b) :: padd l m
def psc (r : Int) (l : List Int) : List Int := l.map fun c => r * c
theorem ev_padd : ∀ (l m : List Int) (x : Int), ev (padd l m) x = ev l x + ev m x
  | [], m, x => by simp [padd, ev]
  | a :: l, [], x => by simp [padd, ev]
  | a :: l, b :: m, x => by simp only [padd, ev, ev_padd l m x, Int.mul_add]; omega
theorem ev_psc (r : Int) : ∀ (l : List Int) (x : Int), ev (psc r l) x = r * ev l x
  | [], x => by simp [psc, ev]
  | a :: l, x => by
    have ih := ev_psc r l x
    simp only [psc] at ih
    simp only [psc, List.map_cons, ev, ih, Int.mul_add]
    rw [Int.mul_left_comm]
theorem len_padd : ∀ (l m : List Int), (padd l m).length = max l.length m.length
  | [], m => by simp [padd]
  | a :: l, [] => by simp [padd]
  | a :: l, b :: m => by simp only [padd, List.length_cons, len_padd l m]; omega
theorem len_psc (r : Int) (l : List Int) : (psc r l).length = l.length := by unfold psc; rw [List.length_map]
/-- The quotient by (X - r). -/
def qd (r : Int) : List Int → List Int
  | [] => []
  | _ :: l => padd l (psc r (qd r l))
theorem len_qd (r : Int) : ∀ l : List Int, (qd r l).length = l.length - 1
  | [] => rfl
  | c :: l => by simp only [qd, len_padd, len_psc, len_qd r l, List.length_cons]; omega
theorem ev_qd (r : Int) : ∀ (l : List Int) (x : Int), ev l x - ev l r = (x - r) * ev (qd r l) x
  | [], x => by simp [ev, qd]
  | c :: l, x => by
    have ih := ev_qd r l x
    simp only [ev, qd, ev_padd, ev_psc]
    have e : (x - r) * (ev l x + r * ev (qd r l) x) = (x - r) * ev l x + r * ((x - r) * ev (qd r l) x) := by rw [Int.mul_add, Int.mul_left_comm]
    rw [e, ← ih, Int.sub_mul, Int.mul_sub]; omega
/-- A polynomial with as many roots as coefficients is 0 everywhere. -/
theorem ev_zero {p : Nat} (h : Pr p) : ∀ (xs c : List Int), c.length ≤ xs.length → xs.Pairwise (fun a b => ¬ Cg p a b) → (∀ x ∈ xs, Cg p (ev c x) 0) → ∀ y, Cg p (ev c y) 0
  | [], c, hl, _, _, y => by
    have : c = [] := List.eq_nil_of_length_eq_zero (by simpa using hl)
    rw [this]; exact Cg.refl _ _
  | r :: xs, c, hl, hp, hz, y => by
    rw [List.pairwise_cons] at hp
    have hr := hz r (by simp)
    have hq : ∀ x ∈ xs, Cg p (ev (qd r c) x) 0 := by
      intro x hx
      have e := ev_qd r c x
      have hd : (p : Int) ∣ (x - r) * ev (qd r c) x := by
        rw [← e]
        exact ((hz x (by simp [hx])).trans hr.symm)
      rcases h.mul hd with h1 | h1
      · exact absurd (Cg.symm (show Cg p x r from h1)) (hp.1 x hx)
      · exact Cg.zero.2 h1
    have hlen : (qd r c).length ≤ xs.length := by rw [len_qd]; simp only [List.length_cons] at hl; omega
    have hy := ev_zero h xs (qd r c) hlen hp.2 hq y
    have e := ev_qd r c y
    have : ev c y = ev c r + (y - r) * ev (qd r c) y := by omega
    rw [this]
    exact (hr.add ((Cg.refl p (y - r)).mul hy)).trans (Cg.of_eq (by simp))
/-- The product of all (X - r). -/
def lin (r : Int) (l : List Int) : List Int := padd (psc (-r) l) (0 :: l)
def basis : List Int → List Int
  | [] => [1]
  | r :: rs => lin r (basis rs)
theorem ev_lin (r : Int) (l : List Int) (x : Int) : ev (lin r l) x = (x - r) * ev l x := by
  unfold lin; rw [ev_padd, ev_psc]
  show -r * ev l x + (0 + x * ev l x) = _
  rw [Int.sub_mul, Int.neg_mul]; omega
theorem ev_basis : ∀ (rs : List Int) (x : Int), ev (basis rs) x = prodL (rs.map fun r => x - r)
  | [], x => by simp [basis, ev, prodL]
  | r :: rs, x => by simp only [basis, ev_lin, ev_basis rs x, List.map_cons, prodL]
theorem len_basis : ∀ rs : List Int, (basis rs).length = rs.length + 1
  | [] => rfl
  | r :: rs => by simp only [basis, lin, len_padd, len_psc, List.length_cons, len_basis rs]; omega

/-! ### Interpolation. A share is a pair of a point and a value. -/
/-- What the share at a place counts for at x: the product over all others. -/
def wt (p : Nat) (ss : List (Int × Int)) (i : Nat) (x : Int) : Int :=
  prodL ((ss.eraseIdx i).map fun t => x - t.1) * prodL ((ss.eraseIdx i).map fun t => (ss.getD i (0, 0)).1 - t.1) ^ (p - 2)
def thr (p : Nat) (ss : List (Int × Int)) (x : Int) : Nat → Int
  | 0 => 0
  | k + 1 => thr p ss x k + (ss.getD k (0, 0)).2 * wt p ss k x
def thrP (p : Nat) (ss : List (Int × Int)) : Nat → List Int
  | 0 => []
  | k + 1 => padd (thrP p ss k) (psc ((ss.getD k (0, 0)).2 * prodL ((ss.eraseIdx k).map fun t => (ss.getD k (0, 0)).1 - t.1) ^ (p - 2)) (basis ((ss.eraseIdx k).map fun t => t.1)))
theorem ev_thrP (p : Nat) (ss : List (Int × Int)) (x : Int) : ∀ k, ev (thrP p ss k) x = thr p ss x k
  | 0 => rfl
  | k + 1 => by
    simp only [thrP, thr, ev_padd, ev_psc, ev_thrP p ss x k, ev_basis, List.map_map, wt]
    congr 1
    rw [Int.mul_assoc]; congr 1
    rw [Int.mul_comm]; rfl
theorem len_thrP (p : Nat) (ss : List (Int × Int)) : ∀ k, k ≤ ss.length → (thrP p ss k).length ≤ ss.length
  | 0, _ => Nat.zero_le _
  | k + 1, h => by
    have ih := len_thrP p ss k (by omega)
    simp only [thrP, len_padd, len_psc, len_basis, List.length_map, List.length_eraseIdx]
    rw [if_pos (by omega)]; omega
/-- Points that are all different modulo p. -/
def Diff (p : Nat) (ss : List (Int × Int)) : Prop := (ss.map fun t => t.1).Pairwise fun a b => ¬ Cg p a b
theorem Diff.at {p : Nat} {ss : List (Int × Int)} (h : Diff p ss) {i j : Nat} (hi : i < ss.length) (hj : j < ss.length) (hij : i ≠ j) : ¬ Cg p (ss.getD i (0, 0)).1 (ss.getD j (0, 0)).1 := by
  unfold Diff at h
  rw [List.pairwise_map] at h
  have e : ∀ k (hk : k < ss.length), ss.getD k (0, 0) = ss[k] := fun k hk => by rw [List.getD_eq_getElem?_getD, List.getElem?_eq_getElem hk]; rfl
  rw [e i hi, e j hj]
  rcases Nat.lt_or_ge i j with hlt | hge
  · exact List.pairwise_iff_getElem.1 h i j hi hj hlt
  · exact fun hc => List.pairwise_iff_getElem.1 h j i hj hi (by omega) hc.symm
theorem mem_erase_at {ss : List (Int × Int)} {i : Nat} {t : Int × Int} (ht : t ∈ ss.eraseIdx i) : ∃ j, j < ss.length ∧ j ≠ i ∧ ss.getD j (0, 0) = t := by
  obtain ⟨j, hj, h1, h2⟩ := List.mem_eraseIdx_iff_getElem.1 ht
  exact ⟨j, hj, h1, by rw [List.getD_eq_getElem?_getD, List.getElem?_eq_getElem hj]; exact h2⟩
theorem at_mem_erase {ss : List (Int × Int)} {i j : Nat} (hj : j < ss.length) (hij : j ≠ i) : ss.getD j (0, 0) ∈ ss.eraseIdx i :=
  List.mem_eraseIdx_iff_getElem.2 ⟨j, hj, hij, by rw [List.getD_eq_getElem?_getD, List.getElem?_eq_getElem hj]; rfl⟩
theorem bottom_ne {p : Nat} (h : Pr p) {ss : List (Int × Int)} (hd : Diff p ss) {i : Nat} (hi : i < ss.length) {x : Int} (hx : ∀ j, j < ss.length → j ≠ i → ¬ Cg p x (ss.getD j (0, 0)).1) : ¬ (p : Int) ∣ prodL ((ss.eraseIdx i).map fun t => x - t.1) := by
  refine prodL_ne h fun y hy => ?_
  obtain ⟨t, ht, rfl⟩ := List.mem_map.1 hy
  obtain ⟨j, hj, hji, rfl⟩ := mem_erase_at ht
  exact hx j hj hji
theorem wt_self {p : Nat} (h : Pr p) {ss : List (Int × Int)} (hd : Diff p ss) {i : Nat} (hi : i < ss.length) : Cg p (wt p ss i (ss.getD i (0, 0)).1) 1 := by
  unfold wt
  exact inv_ok h (bottom_ne h hd hi fun j hj hji => hd.at hi hj (Ne.symm hji))
theorem wt_other (p : Nat) {ss : List (Int × Int)} {i j : Nat} (hj : j < ss.length) (hij : j ≠ i) : wt p ss i (ss.getD j (0, 0)).1 = 0 := by
  unfold wt
  rw [prodL_zero, Int.zero_mul]
  exact List.mem_map.2 ⟨_, at_mem_erase hj hij, by omega⟩
/-- At a point that is none of the others a share counts for something. -/
theorem wt_ne {p : Nat} (h : Pr p) {ss : List (Int × Int)} (hd : Diff p ss) {i : Nat} (hi : i < ss.length) {x : Int} (hx : ∀ j, j < ss.length → j ≠ i → ¬ Cg p x (ss.getD j (0, 0)).1) : ¬ (p : Int) ∣ wt p ss i x := by
  have hb := bottom_ne h hd hi fun j hj hji => hd.at hi hj (Ne.symm hji)
  refine h.mul_ne (bottom_ne h hd hi hx) fun e => ?_
  have h1 := inv_ok h hb
  have h2 : (p : Int) ∣ 1 := by
    have h3 := Int.dvd_sub (Int.dvd_trans e (Int.dvd_mul_left (prodL ((ss.eraseIdx i).map fun t => (ss.getD i (0, 0)).1 - t.1)) _)) h1
    rwa [show ∀ a : Int, a - (a - 1) = 1 from fun a => by omega] at h3
  have := Int.le_of_dvd (by omega) h2
  have := h.two
  omega
theorem thr_at {p : Nat} (h : Pr p) {ss : List (Int × Int)} (hd : Diff p ss) {j : Nat} (hj : j < ss.length) : ∀ k, k ≤ ss.length → Cg p (thr p ss (ss.getD j (0, 0)).1 k) (if j < k then (ss.getD j (0, 0)).2 else 0)
  | 0, _ => Cg.refl _ _
  | k + 1, hk => by
    have ih := thr_at h hd hj k (by omega)
    simp only [thr]
    by_cases e : j = k
    · subst e
      rw [if_neg (by omega)] at ih
      rw [if_pos (by omega)]
      have := ih.add ((Cg.refl p (ss.getD j (0, 0)).2).mul (wt_self h hd hj))
      exact this.trans (Cg.of_eq (by omega))
    · rw [wt_other p hj e, Int.mul_zero, Int.add_zero]
      by_cases hlt : j < k
      · rw [if_pos hlt] at ih; rw [if_pos (by omega)]; exact ih
      · rw [if_neg hlt] at ih; rw [if_neg (by omega)]; exact ih
/-- Shares of a polynomial give its values everywhere. -/
theorem thr_poly {p : Nat} (h : Pr p) {ss : List (Int × Int)} (hd : Diff p ss) {f : List Int} (hf : f.length ≤ ss.length) (hv : ∀ j, j < ss.length → Cg p (ss.getD j (0, 0)).2 (ev f (ss.getD j (0, 0)).1)) (x : Int) :
    Cg p (thr p ss x ss.length) (ev f x) := by
  have hz : ∀ y, Cg p (ev (padd (thrP p ss ss.length) (psc (-1) f)) y) 0 := by
    refine ev_zero h (ss.map fun t : Int × Int => t.1) _ ?_ hd fun y hy => ?_
    · rw [len_padd, len_psc, List.length_map]
      have := len_thrP p ss ss.length (Nat.le_refl _)
      omega
    · obtain ⟨t, ht, rfl⟩ := List.mem_map.1 hy
      obtain ⟨j, hj, rfl⟩ := List.getElem_of_mem ht
      have e : ss.getD j (0, 0) = ss[j] := by rw [List.getD_eq_getElem?_getD, List.getElem?_eq_getElem hj]; rfl
      rw [ev_padd, ev_psc, ev_thrP, ← e]
      have h1 := thr_at h hd hj ss.length (Nat.le_refl _)
      rw [if_pos hj] at h1
      have h2 := h1.trans (hv j hj)
      have h3 := h2.sub (Cg.refl p (ev f (ss.getD j (0, 0)).1))
      exact (Cg.of_eq (by omega)).trans (h3.trans (Cg.of_eq (by omega)))
  have h1 := hz x
  rw [ev_padd, ev_psc, ev_thrP] at h1
  have h2 := h1.add (Cg.refl p (ev f x))
  exact (Cg.of_eq (by omega)).trans (h2.trans (Cg.of_eq (by omega)))
theorem erase_map {α β : Type} (f : α → β) : ∀ (l : List α) (i : Nat), (l.map f).eraseIdx i = (l.eraseIdx i).map f
  | [], _ => rfl
  | _ :: _, 0 => rfl
  | a :: l, i + 1 => by simp only [List.map_cons, List.eraseIdx_cons_succ, erase_map f l i]
/-- Points alone weigh. -/
theorem wt_congr {p : Nat} {ss tt : List (Int × Int)} (h : ss.map (fun t => t.1) = tt.map (fun t => t.1)) (i : Nat) (x : Int) : wt p ss i x = wt p tt i x := by
  have e1 : ∀ y : Int, (ss.eraseIdx i).map (fun t => y - t.1) = (tt.eraseIdx i).map (fun t => y - t.1) := fun y => by
    have a : ∀ l : List (Int × Int), (l.eraseIdx i).map (fun t => y - t.1) = ((l.map fun t => t.1).eraseIdx i).map (fun r => y - r) := fun l => by
      rw [erase_map, List.map_map]; rfl
    rw [a, a, h]
  have e2 : (ss.getD i (0, 0)).1 = (tt.getD i (0, 0)).1 := by
    have a : ∀ l : List (Int × Int), (l.getD i (0, 0)).1 = (l.map fun t => t.1).getD i 0 := fun l => by
      rw [List.getD_eq_getElem?_getD, List.getD_eq_getElem?_getD, List.getElem?_map]; cases l[i]? <;> rfl
    rw [a, a, h]
  unfold wt; rw [e1, e1, e2]
/-- Another value of one share. -/
theorem thr_turn {p : Nat} {ss : List (Int × Int)} {i : Nat} (hi : i < ss.length) (v x : Int) : ∀ k, thr p (ss.set i ((ss.getD i (0, 0)).1, v)) x k = thr p ss x k + if i < k then (v - (ss.getD i (0, 0)).2) * wt p ss i x else 0
  | 0 => by simp [thr]
  | k + 1 => by
    have hm : (ss.set i ((ss.getD i (0, 0)).1, v)).map (fun t => t.1) = ss.map (fun t => t.1) := by
      apply List.ext_getElem?
      intro j
      rw [List.getElem?_map, List.getElem?_map]
      by_cases e : i = j
      · subst e
        rw [List.getElem?_set_self hi, List.getElem?_eq_getElem hi, List.getD_eq_getElem?_getD, List.getElem?_eq_getElem hi]; rfl
      · rw [List.getElem?_set_ne e]
    simp only [thr]
    rw [thr_turn hi v x k, wt_congr hm]
    by_cases e : i = k
    · subst e
      rw [if_neg (by omega), if_pos (by omega)]
      have : (ss.set i ((ss.getD i (0, 0)).1, v)).getD i (0, 0) = ((ss.getD i (0, 0)).1, v) := by
        rw [List.getD_eq_getElem?_getD, List.getElem?_set_self hi]; rfl
      rw [this, Int.sub_mul]
      show _ + 0 + v * wt p ss i x = _
      omega
    · have : (ss.set i ((ss.getD i (0, 0)).1, v)).getD k (0, 0) = ss.getD k (0, 0) := by
        rw [List.getD_eq_getElem?_getD, List.getElem?_set_ne e, List.getD_eq_getElem?_getD]
      rw [this]
      by_cases hlt : i < k
      · rw [if_pos hlt, if_pos (by omega)]; omega
      · rw [if_neg hlt, if_neg (by omega)]; omega
end Go.Proofs.YtfkeelccnomjkaaDoor.QF
