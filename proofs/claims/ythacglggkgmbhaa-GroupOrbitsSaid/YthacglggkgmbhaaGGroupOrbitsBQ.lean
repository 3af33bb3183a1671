/- permgroup.search: the word of an element that was found. No condition of its own. -/
import Derived.Test.YthacglggkgmbhaaGGroupOrbitsBP
set_option linter.unusedVariables false
set_option linter.unusedSimpArgs false
namespace Go.Proofs.Ythacglggkgmbhaa
open Go.RowKit

/-- from which element each one came, by which letter -/
structure Wy (E : List El) (F : List (Nat × Int)) : Prop where
  len : F.length = E.length
  zero : (E.getD 0 (id, [])).2 = []
  step : ∀ a, 0 < a → a < E.length → (F.getD a (0, 0)).1 < a ∧ (E.getD a (id, [])).2 = (E.getD (F.getD a (0, 0)).1 (id, [])).2 ++ [(F.getD a (0, 0)).2]
theorem Wy.start : Wy [(id, [])] [(0, 0)] := ⟨rfl, rfl, fun a h1 h2 => by simp at h2; omega⟩
theorem Wy.snoc {E : List El} {F : List (Nat × Int)} (W : Wy E F) {i : Nat} (hi : i < E.length) (p : Fn) (c : Int) : Wy (E ++ [(p, (E.getD i (id, [])).2 ++ [c])]) (F ++ [(i, c)]) := by
  have hl := W.len
  have eE : ∀ a, a < E.length → (E ++ [(p, (E.getD i (id, [])).2 ++ [c])]).getD a (id, []) = E.getD a (id, []) := fun a ha => by simp [List.getD, List.getElem?_append, ha]
  have eF : ∀ a, a < E.length → (F ++ [(i, c)]).getD a (0, 0) = F.getD a (0, 0) := fun a ha => by simp [List.getD, List.getElem?_append, show a < F.length by omega]
  refine ⟨by simp [hl], by rw [eE 0 (by omega)]; exact W.zero, fun a h1 h2 => ?_⟩
  rw [List.length_append, List.length_singleton] at h2
  by_cases ha : a < E.length
  · rw [eE a ha, eF a ha]
    obtain ⟨q1, q2⟩ := W.step a h1 ha
    exact ⟨q1, by rw [eE _ (by omega)]; exact q2⟩
  · have : a = E.length := by omega
    subst this
    have e1 : (F ++ [(i, c)]).getD E.length (0, 0) = (i, c) := by rw [← hl]; simp
    rw [e1]
    refine ⟨hi, ?_⟩
    rw [eE i hi]
    simp
/-- the elements, as the program keeps them -/
def wN (n : Nat) : List El → List (Nat × Int) → List PV
  | x :: E, f :: F => pli (tabN n x.1) :: pint f.1 :: pint f.2 :: wN n E F
  | _, _ => []
theorem wN_len (n : Nat) : ∀ (E : List El) (F : List (Nat × Int)), F.length = E.length → (wN n E F).length = 3 * E.length
  | [], [], _ => rfl
  | x :: E, f :: F, h => by
    have := wN_len n E F (by simpa using h)
    simp only [wN, List.length_cons, this]; omega
  | [], _ :: _, h => by simp at h
  | _ :: _, [], h => by simp at h
theorem wN_get (n : Nat) : ∀ (E : List El) (F : List (Nat × Int)) (k : Nat), F.length = E.length → k < E.length →
    (wN n E F)[k * 3]? = some (pli (tabN n (E.getD k (id, [])).1)) ∧ (wN n E F)[k * 3 + 1]? = some (pint (F.getD k (0, 0)).1) ∧ (wN n E F)[k * 3 + 2]? = some (pint (F.getD k (0, 0)).2)
  | [], _, k, _, h => by simp at h
  | _ :: _, [], _, h, _ => by simp at h
  | x :: E, f :: F, 0, _, _ => ⟨rfl, rfl, rfl⟩
  | x :: E, f :: F, k + 1, h, hk => by
    obtain ⟨h1, h2, h3⟩ := wN_get n E F k (by simpa using h) (by simpa using hk)
    have e : (k + 1) * 3 = k * 3 + 1 + 1 + 1 := by omega
    rw [e]
    simp only [wN]
    refine ⟨by simpa [List.getD] using h1, ?_, ?_⟩
    · rw [show k * 3 + 1 + 1 + 1 + 1 = (k * 3 + 1) + 1 + 1 + 1 by omega]; simpa [List.getD] using h2
    · rw [show k * 3 + 1 + 1 + 1 + 2 = (k * 3 + 2) + 1 + 1 + 1 by omega]; simpa [List.getD] using h3
theorem wN_snoc (n : Nat) : ∀ (E : List El) (F : List (Nat × Int)) (x : El) (f : Nat × Int), F.length = E.length → wN n (E ++ [x]) (F ++ [f]) = wN n E F ++ [pli (tabN n x.1), pint f.1, pint f.2]
  | [], [], _, _, _ => rfl
  | y :: E, g :: F, x, f, h => by
    simp only [List.cons_append, wN, wN_snoc n E F x f (by simpa using h)]
  | [], _ :: _, _, _, h => by simp at h
  | _ :: _, [], _, _, h => by simp at h
section
variable {P : Program} {T : TypeId → TI} {M : Hn} {t : Nat → PV} {h : HP} {cl : Oper → Cls} {ops : Array Oper} {l : List Oper} {K : AS → Prop} {d : Nat} {ty : TypeId} {pos : String} {aft : Array Edge}
/-- s[:len(s):len(s)], s a slice of one's own -/
theorem AW.clipQ {tt : TypeId} {x hi mx : Operand} {el bs m tk off : Nat} {zc : List Value} {k1 k2 : IntKind} (hx : evA t x = .ref tk off 1 m) (ht : T tt = .sl el 1 bs zc) (hh : evA t hi = .sc (.int k1 m)) (hm : evA t mx = .sc (.int k2 m)) (hk : AW P T M cl ops l ⟨upd t d (.ref tk off 1 m), h⟩ K) :
    AW P T M cl ops (⟨some d, .slice tt x none (some hi) (some mx), ty, pos, aft, none⟩ :: l) ⟨t, h⟩ K := by
  have e : PV.ref tk (off + (0 : Int).toNat * 1) 1 ((m : Int).toNat - (0 : Int).toNat) = .ref tk off 1 m := by simp
  refine ⟨.inl ⟨_, (by unfold AX; simp only [GX, DX, slX, hx, ht, hh, hm, boundX]; exact ⟨trivial, trivial, ⟨by omega, by omega, by omega⟩, AX.nil rfl⟩), ?_⟩⟩
  have := hk.out
  rw [← e] at this
  exact this
end
set_option maxHeartbeats 4000000 in
set_option maxRecDepth 100000 in
theorem clipR_e {t n : Nat} (h : HP) {cs : List PV} (hb : h.blk t = some cs) : SChE Try.prog 46 [.ref t 0 1 n] h (fun r h' => r = .ref t 0 1 n ∧ h' = h) := by
  refine SChE.go {} tok mixed Try.func46 rfl rfl Try.ntmps46 rfl rfl (by kernel_rfl) (fun hw => ?_)
  first | simp only [updS] | simp only [updL, Nat.reduceAdd]
  repeat (first | refine S0 ?_ | refine S1 ?_ | refine S2 ?_ | refine S4 ?_ | refine S5 ?_ | refine S6 ?_ | refine S7 ?_ | refine S8 ?_ | refine S10 ?_ | refine S11 ?_ | refine S13 ?_ | refine S15 ?_ | refine S16 ?_ | refine S19 ?_ | refine S20 ?_ | refine S24 ?_ | refine S27 ?_ | refine S30 ?_ | refine S45 ?_ | refine S46 ?_ | refine S49 ?_ | refine S63 ?_)
  refine AW.clipQ EVx rfl EVx EVx ?_
  repeat (first | refine S0 ?_ | refine S1 ?_ | refine S2 ?_ | refine S4 ?_ | refine S5 ?_ | refine S6 ?_ | refine S7 ?_ | refine S8 ?_ | refine S10 ?_ | refine S11 ?_ | refine S13 ?_ | refine S15 ?_ | refine S16 ?_ | refine S19 ?_ | refine S20 ?_ | refine S24 ?_ | refine S27 ?_ | refine S30 ?_ | refine S45 ?_ | refine S46 ?_ | refine S49 ?_ | refine S63 ?_)
  exact ⟨.inr rfl, _, ⟨_, rfl, rfl⟩, rfl, rfl⟩
set_option maxHeartbeats 8000000 in
set_option maxRecDepth 100000 in
theorem word_e {n : Nat} {E : List El} {F : List (Nat × Int)} (W : Wy E F) (hlen : E.length ≤ 100000) (hwl : ∀ x ∈ E, x.2.length < E.length) {ft wt i : Nat} (hi : i < E.length) {h : HP} (hf : h.blk ft = some [.ref wt 0 3 E.length]) (hb : h.blk wt = some (wN n E F)) :
    SChE Try.prog 44 [pint i, .ptr ft 0] h (fun r h' => ∃ T, r = .ref T 0 1 (E.getD i (id, [])).2.length ∧ h'.blk T = some (ints (E.getD i (id, [])).2)) := by
  have hFl := W.len
  have hcl := wN_len n E F hFl
  refine SChE.go {} tok mixed Try.func44 rfl rfl Try.ntmps44 rfl rfl (by kernel_rfl) (fun hw => ?_)
  have hft := hw.lt hf
  have hwt := hw.lt hb
  first | simp only [updS] | simp only [updL, Nat.reduceAdd]
  repeat (first | refine S0 ?_ | refine S1 ?_ | refine S2 ?_ | refine S4 ?_ | refine S5 ?_ | refine S6 ?_ | refine S7 ?_ | refine S8 ?_ | refine S10 ?_ | refine S11 ?_ | refine S13 ?_ | refine S15 ?_ | refine S16 ?_ | refine S19 ?_ | refine S20 ?_ | refine S24 ?_ | refine S27 ?_ | refine S30 ?_ | refine S45 ?_ | refine S46 ?_ | refine S49 ?_ | refine S63 ?_)
  refine CW.own 4 1 rfl ?_
  refine CW.loopS (fun x : Nat × List Int × Nat => x.1 < E.length ∧ (E.getD i (id, [])).2 = (E.getD x.1 (id, [])).2 ++ x.2.1.reverse) (fun x => [(0, pint x.1), (1, .ptr ft 0), (4, .ref x.2.2 0 1 x.2.1.length)])
    (fun x hp => hp.blk ft = some [.ref wt 0 3 E.length] ∧ hp.blk wt = some (wN n E F) ∧ hp.blk x.2.2 = some (ints x.2.1) ∧ x.2.2 % 2 = 0 ∧ 2 * h.next ≤ x.2.2 ∧ x.2.2 < 2 * hp.next ∧ h.next ≤ hp.next) (fun x => x.1) (i, [], h.tok false) ⟨⟨hi, by simp⟩, SLx, by
      have ht : h.tok false = 2 * h.next := HP.tokF _
      exact ⟨(HP.add_other _ _ _ (by omega)).trans hf, (HP.add_other _ _ _ (by omega)).trans hb, HP.add_same _ _ _, HP.tok_even _, by show 2 * h.next ≤ h.tok false; omega, by show h.tok false < 2 * (h.next + 1); omega, Nat.le_succ _⟩⟩ ?_
  rintro ⟨j, out, T⟩ t hp ⟨hj, he⟩ ⟨h1, h2, h3, h4, h5, h6, h7⟩
  simp only at hj he h1 h2 h3 h4 h5 h6
  first | simp only [updS] | simp only [updL, Nat.reduceAdd]
  have hil := hwl _ (mem_getD hi (id, []))
  have hol : out.length ≤ (E.getD i (id, [])).2.length := by rw [he]; simp
  by_cases hj0 : 0 < j
  · obtain ⟨w1, w2, w3⟩ := wN_get n E F j hFl hj
    obtain ⟨q1, q2⟩ := W.step j hj0 hj
    repeat (first | refine S0 ?_ | refine S1 ?_ | refine S2 ?_ | refine S4 ?_ | refine S5 ?_ | refine S6 ?_ | refine S7 ?_ | refine S8 ?_ | refine S10 ?_ | refine S11 ?_ | refine S13 ?_ | refine S15 ?_ | refine S16 ?_ | refine S19 ?_ | refine S20 ?_ | refine S24 ?_ | refine S27 ?_ | refine S30 ?_ | refine S45 ?_ | refine S46 ?_ | refine S49 ?_ | refine S63 ?_)
    rw [show (j : Int).toNat * 3 + 2 = j * 3 + 2 by simp]
    refine AW.ldm EVx (by first | exact Or.inl rfl | exact Or.inr ⟨rfl, HP.tok_even _⟩ | exact Or.inr (Or.inl ⟨rfl, HP.tok_even _⟩) | exact Or.inr (Or.inr ⟨rfl, HP.tok_odd _⟩) | exact Or.inr (Or.inl rfl) | exact Or.inr (Or.inr (Or.inl rfl)) | exact Or.inr (Or.inr (Or.inr (Or.inl ⟨rfl, HP.tok_odd _⟩))) | exact Or.inr (Or.inr (Or.inr (Or.inr ⟨rfl, HP.tok_even _⟩))) | exact Or.inr (Or.inr (Or.inr (Or.inr ⟨rfl, by assumption⟩))) | exact Or.inr ⟨rfl, by assumption⟩ | exact Or.inr (Or.inl ⟨rfl, by assumption⟩) | exact Or.inr (Or.inr ⟨rfl, by assumption⟩) | exact Or.inr (Or.inr (Or.inr (Or.inl ⟨rfl, by assumption⟩))) | exact Or.inr (Or.inr (Or.inl ⟨rfl, HP.tok_odd _⟩)) | exact Or.inr (Or.inr (Or.inl ⟨rfl, by assumption⟩)) | exact Or.inr (Or.inr (Or.inr rfl)) | exact Or.inr (Or.inr rfl) | exact Or.inr rfl) rfl h2 w3 ?_
    repeat (first | refine S0 ?_ | refine S1 ?_ | refine S2 ?_ | refine S4 ?_ | refine S5 ?_ | refine S6 ?_ | refine S7 ?_ | refine S8 ?_ | refine S10 ?_ | refine S11 ?_ | refine S13 ?_ | refine S15 ?_ | refine S16 ?_ | refine S19 ?_ | refine S20 ?_ | refine S24 ?_ | refine S27 ?_ | refine S30 ?_ | refine S45 ?_ | refine S46 ?_ | refine S49 ?_ | refine S63 ?_)
    have tkn : hp.tok false = 2 * hp.next := HP.tokF _
    have tkn2 : (hp.kill T).tok false = 2 * hp.next := HP.tokF _
    have ob : ∀ t, t ≠ T → t < 2 * hp.next → ((hp.kill T).add false (ints (out ++ [(F.getD j (0, 0)).2]))).blk t = hp.blk t := fun t a1 a2 => (HP.add_other _ _ _ (by omega)).trans (HP.kill_other _ a1)
    have g1 := (ob ft (by omega) (by omega)).trans h1
    have g2 := (ob wt (by omega) (by omega)).trans h2
    rw [show (j : Int).toNat * 3 + 1 = j * 3 + 1 by simp]
    refine AW.ldm EVx (by first | exact Or.inl rfl | exact Or.inr ⟨rfl, HP.tok_even _⟩ | exact Or.inr (Or.inl ⟨rfl, HP.tok_even _⟩) | exact Or.inr (Or.inr ⟨rfl, HP.tok_odd _⟩) | exact Or.inr (Or.inl rfl) | exact Or.inr (Or.inr (Or.inl rfl)) | exact Or.inr (Or.inr (Or.inr (Or.inl ⟨rfl, HP.tok_odd _⟩))) | exact Or.inr (Or.inr (Or.inr (Or.inr ⟨rfl, HP.tok_even _⟩))) | exact Or.inr (Or.inr (Or.inr (Or.inr ⟨rfl, by assumption⟩))) | exact Or.inr ⟨rfl, by assumption⟩ | exact Or.inr (Or.inl ⟨rfl, by assumption⟩) | exact Or.inr (Or.inr ⟨rfl, by assumption⟩) | exact Or.inr (Or.inr (Or.inr (Or.inl ⟨rfl, by assumption⟩))) | exact Or.inr (Or.inr (Or.inl ⟨rfl, HP.tok_odd _⟩)) | exact Or.inr (Or.inr (Or.inl ⟨rfl, by assumption⟩)) | exact Or.inr (Or.inr (Or.inr rfl)) | exact Or.inr (Or.inr rfl) | exact Or.inr rfl) rfl g2 w2 ?_
    repeat (first | refine S0 ?_ | refine S1 ?_ | refine S2 ?_ | refine S4 ?_ | refine S5 ?_ | refine S6 ?_ | refine S7 ?_ | refine S8 ?_ | refine S10 ?_ | refine S11 ?_ | refine S13 ?_ | refine S15 ?_ | refine S16 ?_ | refine S19 ?_ | refine S20 ?_ | refine S24 ?_ | refine S27 ?_ | refine S30 ?_ | refine S45 ?_ | refine S46 ?_ | refine S49 ?_ | refine S63 ?_)
    rw [tkn]
    refine ⟨((F.getD j (0, 0)).1, out ++ [(F.getD j (0, 0)).2], 2 * hp.next), ⟨by simp only; omega, by simp only; rw [he, q2]; simp⟩, by simp only [List.length_append, List.length_singleton]; exact SLx, ⟨g1, g2, ?_, by simp only; omega, by simp only; omega, by show 2 * hp.next < 2 * (hp.next + 1); omega, by show h.next ≤ hp.next + 1; omega⟩, q1⟩
    have := HP.add_same (hp.kill T) false (ints (out ++ [(F.getD j (0, 0)).2]))
    rwa [tkn2] at this
  · obtain rfl : j = 0 := by omega
    rw [W.zero, List.nil_append] at he
    have hrl : (E.getD i (id, [])).2.length = out.length := by rw [he]; simp
    repeat (first | refine S0 ?_ | refine S1 ?_ | refine S2 ?_ | refine S4 ?_ | refine S5 ?_ | refine S6 ?_ | refine S7 ?_ | refine S8 ?_ | refine S10 ?_ | refine S11 ?_ | refine S13 ?_ | refine S15 ?_ | refine S16 ?_ | refine S19 ?_ | refine S20 ?_ | refine S24 ?_ | refine S27 ?_ | refine S30 ?_ | refine S45 ?_ | refine S46 ?_ | refine S49 ?_ | refine S63 ?_)
    refine Scalle (args := [.ref T 0 1 out.length]) (reverse_e (by omega) h3) ?_
    rintro r X ⟨x1, _⟩
    repeat (first | refine S0 ?_ | refine S1 ?_ | refine S2 ?_ | refine S4 ?_ | refine S5 ?_ | refine S6 ?_ | refine S7 ?_ | refine S8 ?_ | refine S10 ?_ | refine S11 ?_ | refine S13 ?_ | refine S15 ?_ | refine S16 ?_ | refine S19 ?_ | refine S20 ?_ | refine S24 ?_ | refine S27 ?_ | refine S30 ?_ | refine S45 ?_ | refine S46 ?_ | refine S49 ?_ | refine S63 ?_)
    refine Scalle (args := [.ref T 0 1 out.length]) (clipR_e X x1) ?_
    rintro r X2 ⟨rfl, rfl⟩
    repeat (first | refine S0 ?_ | refine S1 ?_ | refine S2 ?_ | refine S4 ?_ | refine S5 ?_ | refine S6 ?_ | refine S7 ?_ | refine S8 ?_ | refine S10 ?_ | refine S11 ?_ | refine S13 ?_ | refine S15 ?_ | refine S16 ?_ | refine S19 ?_ | refine S20 ?_ | refine S24 ?_ | refine S27 ?_ | refine S30 ?_ | refine S45 ?_ | refine S46 ?_ | refine S49 ?_ | refine S63 ?_)
    exact ⟨.inr rfl, _, ⟨_, rfl, rfl⟩, T, by rw [hrl]; rfl, by rw [he]; exact x1⟩
end Go.Proofs.Ythacglggkgmbhaa
