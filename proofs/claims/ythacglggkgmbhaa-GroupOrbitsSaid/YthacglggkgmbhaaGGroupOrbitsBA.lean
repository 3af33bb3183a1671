/- Groups of permutations: what a list of maps generates, and chains of stabilizers. Plain facts: nothing of the program is here. -/
import Derived.Test.YthacglggkgmbhaaGGroupOrbitsAZ
set_option linter.unusedVariables false
set_option linter.unusedSimpArgs false
namespace Go.Proofs.Ythacglggkgmbhaa

abbrev Fn := Nat → Nat
/-- a permutation of the numbers below n, that turns no other number -/
structure Pe (n : Nat) (F : Fn) : Prop where
  lt : ∀ i, i < n → F i < n
  inj : ∀ i j, i < n → j < n → F i = F j → i = j
  out : ∀ i, n ≤ i → F i = i
def cmp (F G : Fn) : Fn := fun i => G (F i)
theorem cmp_assoc (F G H : Fn) : cmp (cmp F G) H = cmp F (cmp G H) := rfl
theorem Pe.ext {n : Nat} {F G : Fn} (h : Pe n F) (h' : Pe n G) (e : ∀ i, i < n → F i = G i) : F = G := by
  funext i
  by_cases c : i < n
  · exact e i c
  · rw [h.out i (by omega), h'.out i (by omega)]
theorem Pe.tab {n : Nat} {F G : Fn} (h : Pe n F) (h' : Pe n G) (e : tabN n F = tabN n G) : F = G := h.ext h' fun i hi => by
  have h1 := tabN_get (F := F) hi
  rw [e, tabN_get hi] at h1
  exact (Int.ofNat.inj h1).symm
theorem Pe.one (n : Nat) : Pe n id := ⟨fun _ h => h, fun _ _ _ _ h => h, fun _ _ => rfl⟩
theorem Pe.mul {n : Nat} {F G : Fn} (h : Pe n F) (h' : Pe n G) : Pe n (cmp F G) :=
  ⟨fun i hi => h'.lt _ (h.lt i hi), fun i j hi hj e => h.inj i j hi hj (h'.inj _ _ (h.lt i hi) (h.lt j hj) e), fun i hi => by
    show G (F i) = i
    rw [h.out i hi, h'.out i hi]⟩
theorem Pe.isP {n : Nat} {F : Fn} (h : Pe n F) : IsP F n := ⟨h.lt, h.inj⟩
theorem Pe.itr {n : Nat} {F : Fn} (h : Pe n F) (k : Nat) : Pe n (itr F k) :=
  ⟨fun i hi => itr_lt h.lt k i hi, fun i j hi hj e => itr_inj h.lt h.inj k i j hi hj e, fun i hi => by
    induction k with
    | zero => rfl
    | succ k ih => show F (Go.Proofs.Ythacglggkgmbhaa.itr F k i) = i; rw [ih, h.out i hi]⟩
theorem itr_cmp (F : Fn) (k : Nat) : itr F (k + 1) = cmp (itr F k) F := rfl
/-- the inverse, a power -/
def iv (n : Nat) (F : Fn) : Fn := itr F (orderOf (tabN n F) - 1)
theorem ord_pos {n : Nat} {F : Fn} (h : Pe n F) (hn : n ≤ 9) : 1 ≤ orderOf (tabN n F) := by
  have hp := h.isP.pm
  have := cyclesOf_lens hp.rng
  exact (ordAt_bd (cs := cyclesOf (tabN n F)) (fun c hc => ⟨(this c hc).1, Nat.le_trans (this c hc).2 (by rw [tab_len]; exact hn)⟩) _ (Nat.le_refl _)).1
theorem ord_full {n : Nat} {F : Fn} (h : Pe n F) : itr F (orderOf (tabN n F)) = id := by
  have hp := h.isP.pm
  refine (h.itr _).ext (Pe.one n) fun i hi => ?_
  have h1 := order_id hp (i := i) (by rw [tab_len]; exact hi)
  have h2 : itr (fn (tabN n F)) (orderOf (tabN n F)) i = itr F (orderOf (tabN n F)) i := itr_congr (n := n) (fun j hj => by rw [fn_tab hj]; exact h.lt j hj) (fun j hj => fn_tab hj) _ i hi
  rw [← h2, h1]
  rfl
theorem Pe.iv {n : Nat} {F : Fn} (h : Pe n F) : Pe n (iv n F) := h.itr _
theorem iv_r {n : Nat} {F : Fn} (h : Pe n F) (hn : n ≤ 9) : cmp (iv n F) F = id := by
  have h1 := ord_pos h hn
  have h2 := ord_full h
  rw [show orderOf (tabN n F) = (orderOf (tabN n F) - 1) + 1 by omega, itr_cmp] at h2
  exact h2
theorem iv_l {n : Nat} {F : Fn} (h : Pe n F) (hn : n ≤ 9) : cmp F (iv n F) = id := by
  have h1 := ord_pos h hn
  have h2 := ord_full h
  funext i
  have h3 := congrFun h2 i
  rw [show orderOf (tabN n F) = (orderOf (tabN n F) - 1) + 1 by omega, itr_one] at h3
  exact h3
theorem iv_uniq {n : Nat} {F G : Fn} (h : Pe n F) (hn : n ≤ 9) (e : cmp F G = id) : G = iv n F := by
  have h1 := iv_r h hn
  have : cmp (cmp (iv n F) F) G = cmp (iv n F) (cmp F G) := rfl
  rw [h1, e] at this
  exact this
theorem iv_id {n : Nat} (hn : n ≤ 9) : iv n id = id := (iv_uniq (Pe.one n) hn rfl).symm
/-- what a set of maps generates -/
inductive Gm (S : Fn → Prop) : Fn → Prop
  | one : Gm S id
  | mul {F s : Fn} (h : Gm S F) (hs : S s) : Gm S (cmp F s)
theorem Gm.gen {S : Fn → Prop} {s : Fn} (h : S s) : Gm S s := Gm.one.mul h
theorem Gm.app {S : Fn → Prop} {F G : Fn} (h : Gm S F) (h' : Gm S G) : Gm S (cmp F G) := by
  induction h' with
  | one => exact h
  | mul _ hs ih => exact ih.mul hs
theorem Gm.bind {S T : Fn → Prop} {F : Fn} (h : Gm S F) (hs : ∀ s, S s → Gm T s) : Gm T F := by
  induction h with
  | one => exact .one
  | mul _ h ih => exact ih.app (hs _ h)
theorem Gm.mono {S T : Fn → Prop} {F : Fn} (h : Gm S F) (hs : ∀ s, S s → T s) : Gm T F := h.bind fun s hh => .gen (hs s hh)
theorem Gm.itr {S : Fn → Prop} {F : Fn} (h : Gm S F) : ∀ k, Gm S (itr F k)
  | 0 => .one
  | k + 1 => (Gm.itr h k).app h
theorem Gm.iv {S : Fn → Prop} {F : Fn} (n : Nat) (h : Gm S F) : Gm S (iv n F) := h.itr _
theorem Gm.pe {S : Fn → Prop} {n : Nat} {F : Fn} (h : Gm S F) (hs : ∀ s, S s → Pe n s) : Pe n F := by
  induction h with
  | one => exact .one n
  | mul _ h ih => exact ih.mul (hs _ h)
theorem Gm.fix {S : Fn → Prop} {k : Nat} {F : Fn} (h : Gm S F) (hs : ∀ s, S s → s k = k) : F k = k := by
  induction h with
  | one => rfl
  | @mul F s _ h ih => show s (F k) = k; rw [ih, hs _ h]

/-! ### chains -/
theorem key_uniq {y : Nat} {u v : Fn} : ∀ {l : List (Nat × Fn)}, (l.map (·.1)).Nodup → (y, u) ∈ l → (y, v) ∈ l → u = v := by
  intro l
  induction l with
  | nil => intro _ h; cases h
  | cons z l ih =>
    intro hn h1 h2
    simp only [List.map_cons, List.nodup_cons] at hn
    rcases List.mem_cons.1 h1 with rfl | h1 <;> rcases List.mem_cons.1 h2 with h2 | h2
    · cases h2; rfl
    · exact absurd (List.mem_map.2 ⟨_, h2, rfl⟩) hn.1
    · have := hn.1; rw [← h2] at this; exact absurd (List.mem_map.2 ⟨_, h1, rfl⟩) this
    · exact ih hn.2 h1 h2
/-- p is taken apart by the levels from i on -/
def Sf (n : Nat) (R : Nat → List (Nat × Fn)) : Nat → Nat → Fn → Prop
  | 0, _, _ => True
  | d + 1, i, p => ∃ u, (p i, u) ∈ R i ∧ Sf n R d (i + 1) (cmp p (iv n u))
abbrev inS (S : Nat → List Fn) (i : Nat) : Fn → Prop := fun g => g ∈ S i
structure Lv (n : Nat) (R : Nat → List (Nat × Fn)) (S : Nat → List Fn) (i : Nat) : Prop where
  r : ∀ x u, (x, u) ∈ R i → Pe n u ∧ u i = x ∧ ∀ k, k < i → u k = k
  one : (i, id) ∈ R i
  nd : ((R i).map (·.1)).Nodup
  s : ∀ g ∈ S i, Pe n g ∧ ∀ k, k < i → g k = k
  rs : ∀ x u, (x, u) ∈ R i → Gm (inS S i) u
  ss : i + 1 < n → ∀ g ∈ S (i + 1), Gm (inS S i) g
/-- all products of a level are known -/
def Cmp (n : Nat) (R : Nat → List (Nat × Fn)) (S : Nat → List Fn) (i : Nat) : Prop :=
  ∀ x u, (x, u) ∈ R i → ∀ g ∈ S i, ∃ w, ((cmp u g) i, w) ∈ R i ∧ Gm (inS S (i + 1)) (cmp (cmp u g) (iv n w))
structure Good (n : Nat) (R : Nat → List (Nat × Fn)) (S : Nat → List Fn) (i : Nat) : Prop where
  lv : ∀ j, i ≤ j → j < n → Lv n R S j
  cm : ∀ j, i ≤ j → j < n → Cmp n R S j
  top : ∀ j, n ≤ j → S j = []
theorem Good.up {n : Nat} {R : Nat → List (Nat × Fn)} {S : Nat → List Fn} {i j : Nat} (h : Good n R S i) (hj : i ≤ j) : Good n R S j :=
  ⟨fun k h1 h2 => h.lv k (by omega) h2, fun k h1 h2 => h.cm k (by omega) h2, h.top⟩
theorem Good.pe {n : Nat} {R : Nat → List (Nat × Fn)} {S : Nat → List Fn} {i j : Nat} (h : Good n R S i) (hj : i ≤ j) {p : Fn} (hp : Gm (inS S j) p) : Pe n p ∧ ∀ k, k < j → p k = k := by
  by_cases c : j < n
  · have hs := (h.lv j hj c).s
    exact ⟨hp.pe fun s hs' => (hs s hs').1, fun k hk => hp.fix fun s hs' => (hs s hs').2 k hk⟩
  · have : p = id := by
      induction hp with
      | one => rfl
      | mul _ hs _ => exact absurd hs (by show ¬ _ ∈ S j; rw [h.top j (by omega)]; simp)
    subst this
    exact ⟨.one n, fun _ _ => rfl⟩
/-- THE CHAIN knows what its generators generate. -/
theorem chain_eq {n : Nat} (hn : n ≤ 9) {R : Nat → List (Nat × Fn)} {S : Nat → List Fn} : ∀ (d i : Nat), i + d = n → Good n R S i → ∀ p, Pe n p → (∀ k, k < i → p k = k) → (Sf n R d i p ↔ Gm (inS S i) p)
  | 0, i, hd, H, p, hp, hf => by
    have : p = id := hp.ext (.one n) fun k hk => hf k (by omega)
    subst this
    exact ⟨fun _ => .one, fun _ => trivial⟩
  | d + 1, i, hd, H, p, hp, hf => by
    have hi : i < n := by omega
    have L := H.lv i (Nat.le_refl _) hi
    have C := H.cm i (Nat.le_refl _) hi
    have H' := H.up (Nat.le_succ i)
    have IH := chain_eq hn d (i + 1) (by omega) H'
    have rest : ∀ {q w : Fn}, Pe n q → (∀ k, k < i → q k = k) → (q i, w) ∈ R i → Pe n (cmp q (iv n w)) ∧ ∀ k, k < i + 1 → cmp q (iv n w) k = k := fun {q w} hq hqf hw => by
      obtain ⟨w1, w2, w3⟩ := L.r _ _ hw
      refine ⟨hq.mul w1.iv, fun k hk => ?_⟩
      have hl := iv_l w1 hn
      have e : q k = w k := by
        by_cases c : k = i
        · rw [c, w2]
        · rw [hqf k (by omega), w3 k (by omega)]
      show iv n w (q k) = k
      rw [e]
      exact congrFun hl k
    have back : ∀ {q w : Fn}, Pe n w → cmp (cmp q (iv n w)) w = q := fun {q w} hw => by
      rw [cmp_assoc, iv_r hw hn]; rfl
    constructor
    · rintro ⟨u, h1, h2⟩
      obtain ⟨a1, a2⟩ := rest hp hf h1
      have h3 := (IH _ a1 a2).1 h2
      have h4 : Gm (inS S i) (cmp p (iv n u)) := by
        by_cases c : i + 1 < n
        · exact h3.bind (L.ss c)
        · refine h3.bind fun g hg => ?_
          have : g ∈ S (i + 1) := hg
          rw [H.top (i + 1) (by omega)] at this
          cases this
      rw [← back (q := p) (L.r _ _ h1).1]
      exact h4.app (L.rs _ _ h1)
    · intro h
      induction h with
      | one =>
        refine ⟨id, L.one, ?_⟩
        have : cmp id (iv n id) = id := iv_l (.one n) hn
        rw [this]
        exact (IH id (.one n) (fun _ _ => rfl)).2 .one
      | @mul q g hq hg ih =>
        obtain ⟨q1, q2⟩ := H.pe (Nat.le_refl _) hq
        obtain ⟨u, h1, h2⟩ := ih q1 q2
        obtain ⟨w, w1, w2⟩ := C _ _ h1 g hg
        obtain ⟨a1, a2⟩ := rest q1 q2 h1
        have h3 := (IH _ a1 a2).1 h2
        have e1 : cmp (cmp q (iv n u)) (cmp u g) = cmp q g := by
          rw [← cmp_assoc, back (L.r _ _ h1).1]
        have e2 : (cmp q g) i = (cmp u g) i := by
          show g (q i) = g (u i)
          rw [(L.r _ _ h1).2.1]
        refine ⟨w, by rw [e2]; exact w1, ?_⟩
        rw [← e2] at w1
        obtain ⟨b1, b2⟩ := rest hp hf w1
        refine (IH _ b1 b2).2 ?_
        rw [← e1]
        exact h3.app w2
/-! ### how many they are -/
def elems (n : Nat) (R : Nat → List (Nat × Fn)) : Nat → Nat → List Fn
  | 0, _ => [id]
  | d + 1, i => (elems n R d (i + 1)).flatMap fun m => (R i).map fun x => cmp m x.2
def sizes (R : Nat → List (Nat × Fn)) : Nat → Nat → Nat
  | 0, _ => 1
  | d + 1, i => sizes R d (i + 1) * (R i).length
theorem elems_len (n : Nat) (R : Nat → List (Nat × Fn)) : ∀ d i, (elems n R d i).length = sizes R d i
  | 0, _ => rfl
  | d + 1, i => by
    simp only [elems, sizes, List.length_flatMap, List.length_map]
    rw [← elems_len n R d (i + 1)]
    generalize elems n R d (i + 1) = l
    induction l with
    | nil => simp
    | cons a l ih => simp only [List.map_cons, List.sum_cons, ih, List.length_cons, Nat.add_mul]; omega
theorem elems_mem {n : Nat} (hn : n ≤ 9) {R : Nat → List (Nat × Fn)} {S : Nat → List Fn} : ∀ (d i : Nat), i + d = n → Good n R S i → ∀ p, p ∈ elems n R d i ↔ Gm (inS S i) p
  | 0, i, hd, H, p => by
    simp only [elems, List.mem_singleton]
    constructor
    · rintro rfl; exact .one
    · intro h
      obtain ⟨h1, h2⟩ := H.pe (Nat.le_refl _) h
      exact h1.ext (.one n) fun k hk => h2 k (by omega)
  | d + 1, i, hd, H, p => by
    have hi : i < n := by omega
    have L := H.lv i (Nat.le_refl _) hi
    have IH := elems_mem hn d (i + 1) (by omega) (H.up (Nat.le_succ i))
    have E := chain_eq hn (d + 1) i hd H
    have E1 := chain_eq hn d (i + 1) (by omega) (H.up (Nat.le_succ i))
    simp only [elems, List.mem_flatMap, List.mem_map]
    constructor
    · rintro ⟨m, hm, x, hx, rfl⟩
      have h3 := (IH m).1 hm
      obtain ⟨x, u⟩ := x
      have h4 : Gm (inS S i) m := by
        by_cases c : i + 1 < n
        · exact h3.bind (L.ss c)
        · refine h3.bind fun g hg => ?_
          have : g ∈ S (i + 1) := hg
          rw [H.top (i + 1) (by omega)] at this
          cases this
      exact h4.app (L.rs _ _ hx)
    · intro h
      obtain ⟨h1, h2⟩ := H.pe (Nat.le_refl _) h
      obtain ⟨u, u1, u2⟩ := (E p h1 h2).2 h
      obtain ⟨w1, w2, w3⟩ := L.r _ _ u1
      have g : Pe n (cmp p (iv n u)) ∧ ∀ k, k < i + 1 → cmp p (iv n u) k = k := by
        refine ⟨h1.mul w1.iv, fun k hk => ?_⟩
        have e : p k = u k := by
          by_cases c : k = i
          · rw [c, w2]
          · rw [h2 k (by omega), w3 k (by omega)]
        show iv n u (p k) = k
        rw [e]
        exact congrFun (iv_l w1 hn) k
      exact ⟨cmp p (iv n u), (IH _).2 ((E1 _ g.1 g.2).1 u2), (p i, u), u1, by rw [cmp_assoc, iv_r w1 hn]; rfl⟩
theorem elems_nodup {n : Nat} (hn : n ≤ 9) {R : Nat → List (Nat × Fn)} {S : Nat → List Fn} : ∀ (d i : Nat), i + d = n → Good n R S i → (elems n R d i).Nodup
  | 0, i, _, _ => by simp [elems]
  | d + 1, i, hd, H => by
    have hi : i < n := by omega
    have L := H.lv i (Nat.le_refl _) hi
    have H' := H.up (Nat.le_succ i)
    have IH := elems_nodup hn d (i + 1) (by omega) H'
    have mem := elems_mem hn d (i + 1) (by omega) H'
    have hR := L.nd
    have fixm : ∀ m, m ∈ elems n R d (i + 1) → m i = i := fun m hm => (H'.pe (Nat.le_refl _) ((mem m).1 hm)).2 i (by omega)
    simp only [elems]
    rw [List.Nodup, List.pairwise_flatMap]
    refine ⟨fun m hm => ?_, ?_⟩
    · have mi := fixm m hm
      unfold List.Nodup at hR
      rw [List.pairwise_map] at hR ⊢
      refine List.Pairwise.imp_of_mem ?_ hR
      rintro ⟨x, u⟩ ⟨y, v⟩ hx hy hne e
      apply hne
      have e1 := congrFun e i
      have e2 : u (m i) = v (m i) := e1
      rw [mi, (L.r _ _ hx).2.1, (L.r _ _ hy).2.1] at e2
      exact e2
    · refine List.Pairwise.imp_of_mem ?_ IH
      intro m m' hm hm' hne a ha b hb hab
      subst hab
      obtain ⟨⟨x, u⟩, hx, rfl⟩ := List.mem_map.1 ha
      obtain ⟨⟨y, v⟩, hy, e⟩ := List.mem_map.1 hb
      have e1 : v (m' i) = u (m i) := congrFun e i
      rw [fixm m hm, fixm m' hm', (L.r _ _ hx).2.1, (L.r _ _ hy).2.1] at e1
      subst e1
      have huv : u = v := by
        exact key_uniq hR hx hy
      subst huv
      apply hne
      have e2 : cmp m' u = cmp m u := e
      have w1 := (L.r _ _ hx).1
      have e3 : cmp (cmp m' u) (iv n u) = cmp (cmp m u) (iv n u) := by rw [e2]
      rw [cmp_assoc, cmp_assoc, iv_l w1 hn] at e3
      exact e3.symm
end Go.Proofs.Ythacglggkgmbhaa
