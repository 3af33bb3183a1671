/- How a chain of stabilizers grows. Plain facts: nothing of the program is here. -/
import Derived.Test.YthacglggkgmbhaaGGroupOrbitsBA
set_option linter.unusedVariables false
set_option linter.unusedSimpArgs false
namespace Go.Proofs.Ythacglggkgmbhaa

/-- numbers below N that are all different are at most N -/
theorem nat_pigeon : ∀ (N : Nat) (l : List Nat), l.Nodup → (∀ x ∈ l, x < N) → l.length ≤ N
  | 0, l, _, h => by
    cases l with
    | nil => simp
    | cons a l => exact absurd (h a (by simp)) (by omega)
  | N + 1, l, hn, h => by
    have := nat_pigeon N (l.erase N) (hn.erase N) (fun x hx => by
      have h1 := h x (List.mem_of_mem_erase hx)
      have h2 : x ≠ N := fun e => by subst e; exact (hn.not_mem_erase) hx
      omega)
    have h2 := List.length_erase_le (a := N) (l := l)
    by_cases c : N ∈ l
    · rw [List.length_erase_of_mem c] at this; omega
    · rw [List.erase_of_not_mem c] at this; omega
/-- a list of digits as a number -/
def code (m : Nat) (F : Fn) : Nat → Nat
  | 0 => 0
  | k + 1 => code m F k * m + F k
theorem code_lt {m : Nat} {F : Fn} : ∀ k, (∀ i, i < k → F i < m) → code m F k < m ^ k
  | 0, _ => by simp [code]
  | k + 1, h => by
    have h1 := code_lt k (fun i hi => h i (by omega))
    have h2 := h k (by omega)
    rw [Nat.pow_succ]
    show code m F k * m + F k < _
    have : (code m F k + 1) * m ≤ m ^ k * m := Nat.mul_le_mul_right _ h1
    rw [Nat.add_mul] at this
    omega
theorem code_inj {m : Nat} {F G : Fn} : ∀ k, (∀ i, i < k → F i < m) → (∀ i, i < k → G i < m) → code m F k = code m G k → ∀ i, i < k → F i = G i
  | 0, _, _, _, i, hi => by omega
  | k + 1, hF, hG, e, i, hi => by
    have e : code m F k * m + F k = code m G k * m + G k := e
    have h1 := hF k (by omega)
    have h2 := hG k (by omega)
    have e1 : F k = G k := by
      have := congrArg (· % m) e
      simp only [Nat.mul_add_mod_self_right] at this
      rwa [Nat.mod_eq_of_lt h1, Nat.mod_eq_of_lt h2] at this
    have e2 : code m F k = code m G k := by
      have e3 : code m F k * m = code m G k * m := by omega
      exact Nat.eq_of_mul_eq_mul_right (show 0 < m by omega) e3
    by_cases c : i = k
    · rw [c]; exact e1
    · exact code_inj k (fun i hi => hF i (by omega)) (fun i hi => hG i (by omega)) e2 i (by omega)
/-- permutations that are all different are not many -/
theorem fn_pigeon {n : Nat} (hn : n ≤ 9) {l : List Fn} (hd : l.Nodup) (h : ∀ g ∈ l, Pe n g) : l.length ≤ 387420489 := by
  have h1 := nat_pigeon (n ^ n) (l.map fun g => code n g n) (by
    unfold List.Nodup
    rw [List.pairwise_map]
    refine List.Pairwise.imp_of_mem ?_ hd
    intro a b ha hb hne e
    exact hne ((h a ha).ext (h b hb) (code_inj n (h a ha).lt (h b hb).lt e))) (fun x hx => by
    obtain ⟨g, hg, rfl⟩ := List.mem_map.1 hx
    exact code_lt n (h g hg).lt)
  rw [List.length_map] at h1
  refine Nat.le_trans h1 ?_
  have : n ^ n ≤ 9 ^ 9 := Nat.le_trans (Nat.pow_le_pow_left hn n) (Nat.pow_le_pow_right (by omega) hn)
  exact this
theorem keys_len {n : Nat} {R : Nat → List (Nat × Fn)} {S : Nat → List Fn} {i : Nat} (L : Lv n R S i) (hi : i < n) : (R i).length ≤ n := by
  have := nat_pigeon n ((R i).map (·.1)) L.nd (fun x hx => by
    obtain ⟨⟨y, u⟩, hy, rfl⟩ := List.mem_map.1 hx
    obtain ⟨h1, h2, _⟩ := L.r _ _ hy
    rw [← h2]
    exact h1.lt i hi)
  simpa using this
theorem sizes_le {n : Nat} {R : Nat → List (Nat × Fn)} {S : Nat → List Fn} : ∀ d i, i + d = n → Good n R S i → sizes R d i ≤ n ^ d
  | 0, _, _, _ => by simp [sizes]
  | d + 1, i, hd, H => by
    have h1 := sizes_le d (i + 1) (by omega) (H.up (Nat.le_succ i))
    have h2 := keys_len (H.lv i (Nat.le_refl _) (by omega)) (by omega)
    rw [Nat.pow_succ]
    exact Nat.mul_le_mul h1 h2
/-- what fixes the points before i passes the levels before i -/
theorem sf_fix {n : Nat} (hn : n ≤ 9) {R : Nat → List (Nat × Fn)} {S : Nat → List Fn} {p : Fn} {i : Nat} (hi : i ≤ n) : ∀ (e j : Nat), j + e = i → Good n R S j → (∀ k, k < i → p k = k) → Sf n R (n - j) j p → Sf n R (n - i) i p
  | 0, j, he, _, _, h => by
    obtain rfl : j = i := by omega
    exact h
  | e + 1, j, he, H, hf, h => by
    rw [show n - j = (n - (j + 1)) + 1 by omega] at h
    obtain ⟨u, h1, h2⟩ := h
    have L := H.lv j (Nat.le_refl _) (by omega)
    rw [hf j (by omega)] at h1
    obtain rfl := key_uniq L.nd h1 L.one
    rw [iv_id hn] at h2
    exact sf_fix hn hi e (j + 1) (by omega) (H.up (Nat.le_succ j)) hf h2
theorem Lv.congr {n : Nat} {R R' : Nat → List (Nat × Fn)} {S S' : Nat → List Fn} {i : Nat} (L : Lv n R S i) (h1 : R' i = R i) (h2 : S' i = S i) (h3 : i + 1 < n → ∀ g ∈ S' (i + 1), Gm (inS S i) g) : Lv n R' S' i := by
  have e : inS S' i = inS S i := by unfold inS; rw [h2]
  exact ⟨by rw [h1]; exact L.r, by rw [h1]; exact L.one, by rw [h1]; exact L.nd, by rw [h2]; exact L.s, by rw [h1, e]; exact L.rs, by rw [e]; exact h3⟩
theorem Good.congr {n : Nat} {R R' : Nat → List (Nat × Fn)} {S S' : Nat → List Fn} {i : Nat} (H : Good n R S i) (h1 : ∀ j, i ≤ j → R' j = R j) (h2 : ∀ j, i ≤ j → S' j = S j) (h3 : ∀ j, n ≤ j → S' j = []) : Good n R' S' i :=
  ⟨fun j a b => (H.lv j a b).congr (h1 j a) (h2 j a) (by rw [h2 (j + 1) (by omega)]; exact (H.lv j a b).ss), fun j a b => by
    have := H.cm j a b
    unfold Cmp inS at *
    rw [h1 j a, h2 j a, h2 (j + 1) (by omega)]
    exact this, h3⟩
/-- what an addition at a level leaves -/
structure AddP (n : Nat) (R : Nat → List (Nat × Fn)) (S : Nat → List Fn) (i : Nat) (p : Fn) (R' : Nat → List (Nat × Fn)) (S' : Nat → List Fn) : Prop where
  lowR : ∀ j, j < i → R' j = R j
  lowS : ∀ j, j < i → S' j = S j
  good : Good n R' S' i
  mem : Gm (inS S' i) p
  gen : ∀ g ∈ S' i, Gm (fun s => s ∈ S i ∨ s = p) g
  up : ∀ j, ∀ g ∈ S j, g ∈ S' j
/-- what a completion of a level leaves -/
structure CmpP (n : Nat) (R : Nat → List (Nat × Fn)) (S : Nat → List Fn) (i : Nat) (R' : Nat → List (Nat × Fn)) (S' : Nat → List Fn) : Prop where
  lowR : ∀ j, j < i → R' j = R j
  lowS : ∀ j, j ≤ i → S' j = S j
  good : Good n R' S' i
  up : ∀ j, ∀ g ∈ S j, g ∈ S' j
/-- the products of a level that are known: those of the elements before k, of the element k those with the generators before t -/
def Dn (n : Nat) (R : Nat → List (Nat × Fn)) (S : Nat → List Fn) (i k t : Nat) : Prop :=
  ∀ a b, a < (R i).length → b < (S i).length → (a < k ∨ a = k ∧ b < t) →
    ∃ w, ((cmp ((R i).getD a (0, id)).2 ((S i).getD b id)) i, w) ∈ R i ∧ Gm (inS S (i + 1)) (cmp (cmp ((R i).getD a (0, id)).2 ((S i).getD b id)) (iv n w))
structure Ci (n : Nat) (R0 : Nat → List (Nat × Fn)) (S0 : Nat → List Fn) (i : Nat) (R : Nat → List (Nat × Fn)) (S : Nat → List Fn) (k t : Nat) : Prop where
  lowR : ∀ j, j < i → R j = R0 j
  lowS : ∀ j, j ≤ i → S j = S0 j
  good : Good n R S (i + 1)
  lv : Lv n R S i
  up : ∀ j, ∀ g ∈ S0 j, g ∈ S j
  dn : Dn n R S i k t
theorem Ci.start {n : Nat} {R : Nat → List (Nat × Fn)} {S : Nat → List Fn} {i : Nat} (G : Good n R S (i + 1)) (L : Lv n R S i) : Ci n R S i R S 0 0 :=
  ⟨fun _ _ => rfl, fun _ _ => rfl, G, L, fun _ _ h => h, fun a b _ _ h => by omega⟩
section
variable {n : Nat} {R0 R : Nat → List (Nat × Fn)} {S0 S : Nat → List Fn} {i k t : Nat}
theorem mem_getD {α : Type} {l : List α} {a : Nat} (h : a < l.length) (d : α) : l.getD a d ∈ l := by
  rw [show l.getD a d = l[a] by simp [List.getD, h]]
  exact List.getElem_mem h
theorem Ci.next (C : Ci n R0 S0 i R S k t) (ht : t = (S i).length) : Ci n R0 S0 i R S (k + 1) 0 :=
  ⟨C.lowR, C.lowS, C.good, C.lv, C.up, fun a b ha hb h => C.dn a b ha hb (by omega)⟩
theorem Ci.done (C : Ci n R0 S0 i R S k 0) (hi : i < n) (hk : k = (R i).length) : CmpP n R0 S0 i R S := by
  refine ⟨C.lowR, C.lowS, ⟨fun j a b => ?_, fun j a b => ?_, C.good.top⟩, C.up⟩
  · by_cases e : j = i
    · subst e; exact C.lv
    · exact C.good.lv j (by omega) b
  · by_cases e : j = i
    · subst e
      intro x u hx g hg
      obtain ⟨a, ha, e1⟩ := List.getElem_of_mem hx
      obtain ⟨b, hb, e2⟩ := List.getElem_of_mem hg
      have := C.dn a b ha hb (by omega)
      rw [show (R j).getD a (0, id) = (x, u) by simp [List.getD, ha, e1], show (S j).getD b id = g by simp [List.getD, hb, e2]] at this
      exact this
    · exact C.good.cm j (by omega) b
/-- the product of the element k and the generator t -/
def prd (R : Nat → List (Nat × Fn)) (S : Nat → List Fn) (i k t : Nat) : Fn := cmp ((R i).getD k (0, id)).2 ((S i).getD t id)
theorem Ci.prdP (C : Ci n R0 S0 i R S k t) (hk : k < (R i).length) (ht : t < (S i).length) : Pe n (prd R S i k t) ∧ (∀ j, j < i → prd R S i k t j = j) ∧ Gm (inS S i) (prd R S i k t) := by
  have h1 := mem_getD hk (0, id)
  have h2 := mem_getD ht id
  generalize hx : (R i).getD k (0, id) = x at *
  obtain ⟨x, u⟩ := x
  obtain ⟨a1, a2, a3⟩ := C.lv.r _ _ h1
  obtain ⟨b1, b2⟩ := C.lv.s _ h2
  have e : prd R S i k t = cmp u ((S i).getD t id) := by unfold prd; rw [hx]
  rw [e]
  refine ⟨a1.mul b1, fun j hj => ?_, (C.lv.rs _ _ h1).mul h2⟩
  show (S i).getD t id (u j) = j
  rw [a3 j hj, b2 j hj]
def addR (R : Nat → List (Nat × Fn)) (i : Nat) (v : Fn) : Nat → List (Nat × Fn) := fun j => if j = i then R i ++ [(v i, v)] else R j
theorem addR_same (R : Nat → List (Nat × Fn)) (i : Nat) (v : Fn) : addR R i v i = R i ++ [(v i, v)] := if_pos rfl
theorem addR_other (R : Nat → List (Nat × Fn)) {i j : Nat} (v : Fn) (h : j ≠ i) : addR R i v j = R j := if_neg h
/-- a new point is reached -/
theorem Ci.reach (hn : n ≤ 9) (C : Ci n R0 S0 i R S k t) (hi : i < n) (hk : k < (R i).length) (ht : t < (S i).length) (hnew : ∀ w, (prd R S i k t i, w) ∉ R i) :
    Ci n R0 S0 i (addR R i (prd R S i k t)) S k (t + 1) := by
  obtain ⟨p1, p2, p3⟩ := C.prdP hk ht
  generalize hv : prd R S i k t = v at *
  have e1 := addR_same R i v
  refine ⟨fun j hj => ?_, C.lowS, ?_, ?_, C.up, ?_⟩
  · rw [addR_other _ _ (by omega)]; exact C.lowR j hj
  · exact C.good.congr (fun j hj => addR_other _ _ (by omega)) (fun _ _ => rfl) C.good.top
  · have L := C.lv
    refine ⟨fun x u h => ?_, ?_, ?_, L.s, fun x u h => ?_, L.ss⟩
    · rw [e1] at h
      rcases List.mem_append.1 h with h | h
      · exact L.r x u h
      · simp only [List.mem_singleton, Prod.mk.injEq] at h
        obtain ⟨rfl, rfl⟩ := h
        exact ⟨p1, rfl, p2⟩
    · rw [e1]; exact List.mem_append_left _ L.one
    · rw [e1, List.map_append, List.nodup_append]
      refine ⟨L.nd, by simp, fun a ha b hb => ?_⟩
      simp only [List.map_cons, List.map_nil, List.mem_singleton] at hb
      subst hb
      obtain ⟨⟨y, u⟩, hy, rfl⟩ := List.mem_map.1 ha
      intro e
      have e : y = v i := e
      subst e
      exact hnew u hy
    · rw [e1] at h
      rcases List.mem_append.1 h with h | h
      · exact L.rs x u h
      · simp only [List.mem_singleton, Prod.mk.injEq] at h
        obtain ⟨rfl, rfl⟩ := h
        exact p3
  · intro a b ha hb h
    rw [e1] at ha ⊢
    rw [List.length_append, List.length_singleton] at ha
    have hak : a < (R i).length := by omega
    have e2 : (R i ++ [(v i, v)]).getD a (0, id) = (R i).getD a (0, id) := by simp [List.getD, List.getElem?_append, hak]
    rw [e2]
    by_cases c : a < k ∨ a = k ∧ b < t
    · obtain ⟨w, w1, w2⟩ := C.dn a b hak hb c
      exact ⟨w, List.mem_append_left _ w1, w2⟩
    · obtain ⟨rfl, rfl⟩ : a = k ∧ b = t := by omega
      refine ⟨v, ?_, ?_⟩
      · show (prd R S i a b i, v) ∈ _
        rw [hv]; simp
      · show Gm _ (cmp (prd R S i a b) (iv n v))
        rw [hv, iv_l p1 hn]
        exact .one
/-- the product reaches no new point: what remains of it is added one level up -/
theorem Ci.rest (hn : n ≤ 9) (C : Ci n R0 S0 i R S k t) (hi : i < n) (hk : k < (R i).length) (ht : t < (S i).length) {w : Fn} (hw : (prd R S i k t i, w) ∈ R i) :
    Pe n (cmp (prd R S i k t) (iv n w)) ∧ (∀ j, j < i + 1 → cmp (prd R S i k t) (iv n w) j = j) ∧ Gm (inS S i) (cmp (prd R S i k t) (iv n w)) := by
  obtain ⟨p1, p2, p3⟩ := C.prdP hk ht
  obtain ⟨w1, w2, w3⟩ := C.lv.r _ _ hw
  refine ⟨p1.mul w1.iv, fun j hj => ?_, p3.app ((C.lv.rs _ _ hw).iv n)⟩
  have e : prd R S i k t j = w j := by
    by_cases c : j = i
    · rw [c, w2]
    · rw [p2 j (by omega), w3 j (by omega)]
  show iv n w (prd R S i k t j) = j
  rw [e]
  exact congrFun (iv_l w1 hn) j
theorem Ci.added (C : Ci n R0 S0 i R S k t) (hi : i < n) (hk : k < (R i).length) (ht : t < (S i).length) {w : Fn} (hw : (prd R S i k t i, w) ∈ R i) (hp : Gm (inS S i) (cmp (prd R S i k t) (iv n w))) {R' : Nat → List (Nat × Fn)} {S' : Nat → List Fn}
    (A : AddP n R S (i + 1) (cmp (prd R S i k t) (iv n w)) R' S') : Ci n R0 S0 i R' S' k (t + 1) := by
  have eR := A.lowR i (by omega)
  have eS := A.lowS i (by omega)
  have up1 : ∀ {q : Fn}, Gm (inS S (i + 1)) q → Gm (inS S' (i + 1)) q := fun h => h.mono (A.up (i + 1))
  refine ⟨fun j hj => (A.lowR j (by omega)).trans (C.lowR j hj), fun j hj => (A.lowS j (by omega)).trans (C.lowS j hj), A.good, C.lv.congr eR eS (fun h g hg => ?_), fun j g hg => A.up j g (C.up j g hg), ?_⟩
  · refine (A.gen g hg).bind ?_
    rintro s (hs | rfl)
    · exact C.lv.ss h s hs
    · exact hp
  · intro a b ha hb h
    rw [eR] at ha ⊢
    rw [eS] at hb ⊢
    by_cases c : a < k ∨ a = k ∧ b < t
    · obtain ⟨w, w1, w2⟩ := C.dn a b ha hb c
      exact ⟨w, w1, up1 w2⟩
    · obtain ⟨rfl, rfl⟩ : a = k ∧ b = t := by omega
      exact ⟨w, hw, A.mem⟩
end
/-- as far as an element has been taken apart -/
structure Sg (n : Nat) (R : Nat → List (Nat × Fn)) (S : Nat → List Fn) (i0 : Nat) (p : Fn) (i : Nat) (q : Fn) : Prop where
  ge : i0 ≤ i
  le : i ≤ n
  pe : Pe n q
  fix : ∀ k, k < i → q k = k
  wit : ∃ r, Gm (inS S i0) r ∧ p = cmp q r
  sf : Sf n R (n - i0) i0 p ↔ Sf n R (n - i) i q
theorem Sg.start {n : Nat} {R : Nat → List (Nat × Fn)} {S : Nat → List Fn} {i0 : Nat} {p : Fn} (h : i0 ≤ n) (hp : Pe n p) (hf : ∀ k, k < i0 → p k = k) : Sg n R S i0 p i0 p := ⟨Nat.le_refl _, h, hp, hf, ⟨id, .one, rfl⟩, Iff.rfl⟩
/-- the generators of a level are generated by those of the lower ones -/
theorem Good.low {n : Nat} {R : Nat → List (Nat × Fn)} {S : Nat → List Fn} {i : Nat} (G : Good n R S i) : ∀ (e j : Nat), i + e = j → ∀ {q : Fn}, Gm (inS S j) q → Gm (inS S i) q
  | 0, j, he, q, h => by
    obtain rfl : i = j := by omega
    exact h
  | e + 1, j, he, q, h => by
    refine Good.low G e (i + e) rfl ?_
    obtain rfl : j = i + e + 1 := by omega
    by_cases c : i + e + 1 < n
    · exact h.bind ((G.lv (i + e) (by omega) (by omega)).ss c)
    · refine h.bind fun g hg => ?_
      have : g ∈ S (i + e + 1) := hg
      rw [G.top _ (by omega)] at this
      cases this
theorem Sg.step {n : Nat} (hn : n ≤ 9) {R : Nat → List (Nat × Fn)} {S : Nat → List Fn} {i0 : Nat} {p : Fn} {i : Nat} {q u : Fn} (G : Good n R S i0) (s : Sg n R S i0 p i q) (hi : i < n) (hu : (q i, u) ∈ R i) : Sg n R S i0 p (i + 1) (cmp q (iv n u)) := by
  have L := G.lv i s.ge hi
  obtain ⟨w1, w2, w3⟩ := L.r _ _ hu
  obtain ⟨r, r1, r2⟩ := s.wit
  refine ⟨by have := s.ge; omega, hi, s.pe.mul w1.iv, fun k hk => ?_, ⟨cmp u r, (G.low (i - i0) i (by have := s.ge; omega) (L.rs _ _ hu)).app r1, ?_⟩, s.sf.trans ?_⟩
  · have e : q k = u k := by
      by_cases c : k = i
      · rw [c, w2]
      · rw [s.fix k (by omega), w3 k (by omega)]
    show iv n u (q k) = k
    rw [e]
    exact congrFun (iv_l w1 hn) k
  · rw [r2]
    have : cmp (cmp q (iv n u)) (cmp u r) = cmp q (cmp (cmp (iv n u) u) r) := rfl
    rw [this, iv_r w1 hn]; rfl
  · rw [show n - i = (n - (i + 1)) + 1 by omega]
    constructor
    · rintro ⟨v, h1, h2⟩
      rw [key_uniq L.nd h1 hu] at h2
      exact h2
    · intro h
      exact ⟨u, hu, h⟩
theorem Sg.full {n : Nat} {R : Nat → List (Nat × Fn)} {S : Nat → List Fn} {i0 : Nat} {p : Fn} {q : Fn} (s : Sg n R S i0 p n q) : Sf n R (n - i0) i0 p := s.sf.2 (by rw [Nat.sub_self]; trivial)
/-- nothing is to be added -/
theorem AddP.none {n : Nat} (hn : n ≤ 9) {R : Nat → List (Nat × Fn)} {S : Nat → List Fn} {i : Nat} {p : Fn} (hi : i ≤ n) (G : Good n R S i) (hp : Pe n p) (hf : ∀ k, k < i → p k = k) (h : Sf n R (n - i) i p) : AddP n R S i p R S :=
  ⟨fun _ _ => rfl, fun _ _ => rfl, G, (chain_eq hn (n - i) i (by omega) G p hp hf).1 h, fun g hg => .gen (.inl hg), fun _ _ h => h⟩
/-- additions going down: the levels above j have the new element q (those up to i), the levels up to j are as they were -/
structure Ad (n : Nat) (R0 : Nat → List (Nat × Fn)) (S0 : Nat → List Fn) (i : Nat) (q : Fn) (j : Nat) (R : Nat → List (Nat × Fn)) (S : Nat → List Fn) : Prop where
  good : Good n R S j
  lowR : ∀ k, k < j → R k = R0 k
  lowS : ∀ k, k < j → S k = S0 k
  up : ∀ k, ∀ g ∈ S0 k, g ∈ S k
  top : j ≤ i → S j = S0 j ++ [q]
  fresh : i < j → S = S0
theorem Ad.start {n : Nat} {R : Nat → List (Nat × Fn)} {S : Nat → List Fn} {i i0 : Nat} (q : Fn) (h : i0 ≤ i) (G : Good n R S i0) : Ad n R S i q (i + 1) R S :=
  ⟨G.up (by omega), fun _ _ => rfl, fun _ _ => rfl, fun _ _ h => h, fun h => by omega, fun _ => rfl⟩
def addS (S : Nat → List Fn) (j : Nat) (q : Fn) : Nat → List Fn := fun k => if k = j then S j ++ [q] else S k
theorem Ad.pre {n : Nat} {R0 R : Nat → List (Nat × Fn)} {S0 S : Nat → List Fn} {i0 i j : Nat} {q : Fn} (G0 : Good n R0 S0 i0) (hq : Pe n q) (hf : ∀ k, k < i → q k = k) (A : Ad n R0 S0 i q (j + 1) R S) (hj : i0 ≤ j) (hji : j ≤ i) (hin : i < n) :
    Good n R (addS S j q) (j + 1) ∧ Lv n R (addS S j q) j := by
  have L := G0.lv j hj (by omega)
  have eR := A.lowR j (by omega)
  have eS := A.lowS j (by omega)
  have e1 : addS S j q j = S0 j ++ [q] := by unfold addS; rw [if_pos rfl, eS]
  have e2 : ∀ k, k ≠ j → addS S j q k = S k := fun k hk => if_neg hk
  have mono : ∀ {x : Fn}, Gm (inS S0 j) x → Gm (inS (addS S j q) j) x := fun h => h.mono fun s hs => by
    show s ∈ addS S j q j
    rw [e1]; exact List.mem_append_left _ hs
  refine ⟨A.good.congr (fun _ _ => rfl) (fun k hk => e2 k (by omega)) (fun k hk => by rw [e2 k (by omega)]; exact A.good.top k hk), ⟨by rw [eR]; exact L.r, by rw [eR]; exact L.one, by rw [eR]; exact L.nd, fun g hg => ?_, fun x u h => ?_, fun h g hg => ?_⟩⟩
  · rw [e1] at hg
    rcases List.mem_append.1 hg with hg | hg
    · exact L.s g hg
    · simp only [List.mem_singleton] at hg
      subst hg
      exact ⟨hq, fun k hk => hf k (by omega)⟩
  · rw [eR] at h
    exact mono (L.rs x u h)
  · rw [e2 (j + 1) (by omega)] at hg
    by_cases c : j + 1 ≤ i
    · rw [A.top c] at hg
      rcases List.mem_append.1 hg with hg | hg
      · exact mono (L.ss h g hg)
      · simp only [List.mem_singleton] at hg
        subst hg
        exact .gen (by show g ∈ addS S j g j; rw [e1]; simp)
    · have e3 := A.fresh (by omega)
      rw [e3] at hg
      exact mono (L.ss h g hg)
theorem Ad.next {n : Nat} {R0 R R' : Nat → List (Nat × Fn)} {S0 S S' : Nat → List Fn} {i j : Nat} {q : Fn} (A : Ad n R0 S0 i q (j + 1) R S) (hji : j ≤ i) (C : CmpP n R (addS S j q) j R' S') : Ad n R0 S0 i q j R' S' := by
  have eS := A.lowS j (by omega)
  have e1 : addS S j q j = S0 j ++ [q] := by unfold addS; rw [if_pos rfl, eS]
  refine ⟨C.good, fun k hk => (C.lowR k hk).trans (A.lowR k (by omega)), fun k hk => ?_, fun k g hg => C.up k g ?_, fun _ => (C.lowS j (Nat.le_refl _)).trans e1, fun h => by omega⟩
  · rw [C.lowS k (by omega)]
    show (if k = j then _ else S k) = _
    rw [if_neg (by omega)]; exact A.lowS k (by omega)
  · have h1 := A.up k g hg
    show g ∈ (if k = j then S j ++ [q] else S k)
    split
    · rename_i e; subst e; exact List.mem_append_left _ h1
    · exact h1
theorem Ad.done {n : Nat} (hn : n ≤ 9) {R0 R : Nat → List (Nat × Fn)} {S0 S : Nat → List Fn} {i0 i : Nat} {p q : Fn} (G0 : Good n R0 S0 i0) (s : Sg n R0 S0 i0 p i q) (A : Ad n R0 S0 i q i0 R S) : AddP n R0 S0 i0 p R S := by
  obtain ⟨r, r1, r2⟩ := s.wit
  have e := A.top s.ge
  have hq : q ∈ S i0 := by rw [e]; simp
  refine ⟨A.lowR, A.lowS, A.good, ?_, fun g hg => ?_, A.up⟩
  · rw [r2]
    exact (Gm.gen (S := inS S i0) hq).app (r1.mono fun x hx => A.up i0 x hx)
  · rw [e] at hg
    rcases List.mem_append.1 hg with hg | hg
    · exact .gen (.inl hg)
    · simp only [List.mem_singleton] at hg
      subst hg
      have r3 : Gm (fun x => x ∈ S0 i0 ∨ x = p) r := r1.mono fun x hx => .inl hx
      have hr : Pe n r := by
        have hs := G0.pe (Nat.le_refl _) r1
        exact hs.1
      have : g = cmp p (iv n r) := by
        rw [r2, cmp_assoc, iv_l hr hn]; rfl
      rw [this]
      exact (Gm.gen (S := fun x => x ∈ S0 i0 ∨ x = p) (.inr rfl)).app (r3.iv n)
/-- the new element is no old generator -/
theorem Ad.new {n : Nat} (hn : n ≤ 9) {R0 R : Nat → List (Nat × Fn)} {S0 S : Nat → List Fn} {i0 i j : Nat} {p q : Fn} (G0 : Good n R0 S0 i0) (s : Sg n R0 S0 i0 p i q) (hin : i < n) (hno : ∀ u, (q i, u) ∉ R0 i) (A : Ad n R0 S0 i q (j + 1) R S) (hj : i0 ≤ j) (hji : j ≤ i) : q ∉ S j := fun h => by
  rw [A.lowS j (by omega)] at h
  have G := G0.up hj
  have h1 := (chain_eq hn (n - j) j (by omega) G q s.pe (fun k hk => s.fix k (by omega))).2 (Gm.gen (S := inS S0 j) h)
  have h2 := sf_fix hn (p := q) (i := i) (by omega) (i - j) j (by omega) G s.fix h1
  rw [show n - i = (n - (i + 1)) + 1 by omega] at h2
  obtain ⟨u, h3, _⟩ := h2
  exact hno u h3
end Go.Proofs.Ythacglggkgmbhaa
