/- Facts and contracts that the claim uses. No condition of its own. -/
import Derived.Test.YtkmkcbkfakoomaaDoorGRingTextsAO
import Derived.Orders
import Derived.OrdersIn
set_option linter.unusedVariables false
set_option linter.unusedSimpArgs false
namespace Go.Proofs.YtkmkcbkfakoomaaDoor
open Go.RowKit
variable {P : Program} {E : PV → Value → Prop} {w0 : World} {Z0 : Nat → Prop} {n : Nat} {cl : Oper → Cls} {ops : Array Oper} {Q : Exit → Act → World → Prop}
theorem AR.front {oi : Oper} {K : AS → Prop} : ∀ (l1 l2 : List Oper) (s : AS), (cl oi = .wrA → s.hp.Wn) → (∀ oj ∈ l1, oj.apart ops oi = true ∧ clsOk (cl oj) (cl oi) = true) → AR P n cl ops (l1 ++ oi :: l2) s K → AR P n cl ops (oi :: (l1 ++ l2)) s K
  | [], l2, s, _, _, h => h
  | oj :: l1, l2, s, hwn, hok, h => by
    obtain ⟨s1, h1, h2⟩ := h
    obtain ⟨q1, q2⟩ := hok oj (by simp)
    obtain ⟨s2, h3, h4⟩ := AR.front l1 l2 s1 (fun e => h1.wn (by rw [e] at q2; exact q2) (hwn e)) (fun o ho => hok o (by simp [ho])) h2
    obtain ⟨s1', k1, k2⟩ := AStep.swap hwn q1 q2 h1 h3
    exact ⟨s1', k1, s2, k2, h4⟩
def Closed (ops : Array Oper) (listed : Array Bool) : Prop := ∀ i o, ops[i]? = some o → listed.getD i false = true → ∀ e ∈ o.after.toList, Region.binds .any e = true → listed.getD e.on false = true
theorem anc_listed {listed : Array Bool} (hc : Closed ops listed) (j : Nat) : ∀ (f i : Nat), (∀ o, ops[i]? = some o → ∀ e ∈ o.after.toList, Region.binds .any e = true → listed.getD e.on false = true) → anc ops f i j = true → listed.getD j false = true
  | 0, i, _, h => by simp [anc] at h
  | f + 1, i, hi, h => by
    simp only [anc] at h
    cases ho : ops[i]? with
    | none => simp [ho] at h
    | some o =>
      simp only [ho] at h
      rw [Array.any_eq_true'] at h
      obtain ⟨e, he, h⟩ := h
      simp only [Bool.and_eq_true, Bool.or_eq_true, beq_iff_eq] at h
      have hl := hi o ho e (by simpa using he) h.1
      rcases h.2 with rfl | h2
      · exact hl
      · exact anc_listed hc j f e.on (fun o' ho' => hc e.on o' ho' hl) h2
theorem getD_tf {listed : Array Bool} {k : Nat} (hk : k < listed.size) : listed.getD k true = listed.getD k false := by simp [Array.getD, hk]
theorem AR.any {F : Fence} (hF : OkF F) {m : Nat} (hchk : chkDraw cl ops = true) (Kx : AS → Prop) (hQ : ∀ ρ s a w, Rel E w0 Z0 ρ n s a w → Kx s → Q .normal a w) : ∀ (fuel : Nat) (listed : Array Bool) (rem : List Nat) (ρ : Pl) (s : AS) (a : Act) (w : World),
    rem = (List.range ops.size).filter (fun i => !listed.getD i true) → listed.size = ops.size → Closed ops listed → rem.length ≤ fuel → AR P n cl ops (rem.map (fun i => ops.getD i default)) s Kx → Rel E w0 Z0 ρ n s a w →
    wpAnyIn F m P .any ops Q fuel listed a w := by
  have chk : ∀ i (hi : i < ops.size), (∀ e ∈ ops[i].after.toList, Region.binds .any e = true → e.on < i) ∧ ∀ j (hj : j < i), anc ops ops.size i j = true ∨ ((ops[j]'(by omega)).apart ops ops[i] = true ∧ clsOk (cl (ops[j]'(by omega))) (cl ops[i]) = true) := by
    intro i hi
    have := List.all_eq_true.1 hchk i (by simpa using hi)
    simp only [Array.getElem?_eq_getElem hi, Bool.and_eq_true] at this
    obtain ⟨h1, h2⟩ := this
    refine ⟨fun e he hb => ?_, fun j hj => ?_⟩
    · rw [Array.all_eq_true'] at h1
      have := h1 e (by simpa using he)
      simpa [hb] using this
    · have := List.all_eq_true.1 h2 j (by simpa using hj)
      simpa [Array.getElem?_eq_getElem (show j < ops.size by omega)] using this
  have memrem : ∀ {listed : Array Bool} {i : Nat}, i ∈ (List.range ops.size).filter (fun i => !listed.getD i true) ↔ i < ops.size ∧ listed.getD i true = false := by
    intro listed i; simp
  have memready : ∀ {listed : Array Bool} {i : Nat}, i ∈ Region.ready .any ops listed → i < ops.size ∧ listed.getD i true = false ∧ ∀ o, ops[i]? = some o → ∀ e ∈ o.after.toList, Region.binds .any e = true → listed.getD e.on false = true := by
    intro listed i hi
    unfold Region.ready at hi
    obtain ⟨h1, h2⟩ := List.mem_filter.1 hi
    have h1' : i < ops.size := by simpa using h1
    simp only [Bool.and_eq_true, Bool.not_eq_true', Array.getElem?_eq_getElem h1', Option.map_some, Option.getD_some] at h2
    refine ⟨h1', h2.1, fun o ho e he hb => ?_⟩
    rw [Array.getElem?_eq_getElem h1'] at ho
    cases ho
    have := (Array.all_eq_true'.1 h2.2) e (by simpa using he)
    simpa [hb] using this
  intro fuel
  induction fuel with
  | zero =>
    intro listed rem ρ s a w hrem hsz hcl hlen hA R
    have hr0 : rem = [] := List.length_eq_zero_iff.1 (by omega)
    refine ⟨?_, ?_⟩
    · rw [List.eq_nil_iff_forall_not_mem]
      intro i hi
      obtain ⟨h1, h2, _⟩ := memready hi
      have : i ∈ rem := by rw [hrem]; exact memrem.2 ⟨h1, h2⟩
      rw [hr0] at this; cases this
    · rw [hr0] at hA; exact hQ ρ s a w R hA
  | succ fuel ih =>
    intro listed rem ρ s a w hrem hsz hcl hlen hA R
    have hpw : rem.Pairwise (· < ·) := by rw [hrem]; exact List.Pairwise.filter _ List.pairwise_lt_range
    refine ⟨fun hnil => ?_, fun i hi => ?_⟩
    · cases hr : rem with
      | nil => rw [hr] at hA; exact hQ ρ s a w R hA
      | cons i rest =>
        exfalso
        have him : i ∈ rem := by rw [hr]; simp
        have hi2 := memrem.1 (hrem ▸ him)
        have hready : i ∈ Region.ready .any ops listed := by
          unfold Region.ready
          refine List.mem_filter.2 ⟨by simpa using hi2.1, ?_⟩
          simp only [hi2.2, Bool.not_false, Array.getElem?_eq_getElem hi2.1, Option.map_some, Option.getD_some, Bool.true_and]
          rw [Array.all_eq_true']
          intro e he
          cases hb : Region.binds .any e with
          | false => simp
          | true =>
            have hlt := (chk i hi2.1).1 e (by simpa using he) hb
            have hnot : e.on ∉ rem := by
              intro hm
              rw [hr] at hm hpw
              rcases List.mem_cons.1 hm with h | h
              · omega
              · have := (List.pairwise_cons.1 hpw).1 _ h; omega
            have : listed.getD e.on true = true := by
              cases hx : listed.getD e.on true with
              | true => rfl
              | false => exact absurd (hrem ▸ memrem.2 ⟨by omega, hx⟩) hnot
            rw [getD_tf (by omega)] at this
            simp [this]
        rw [hnil] at hready; cases hready
    · obtain ⟨h1, h2, h3⟩ := memready hi
      have him : i ∈ rem := by rw [hrem]; exact memrem.2 ⟨h1, h2⟩
      obtain ⟨l1, l2, hsplit⟩ := List.append_of_mem him
      rw [hsplit] at hpw
      obtain ⟨p1, p2, p3⟩ := List.pairwise_append.1 hpw
      have hlt1 : ∀ j ∈ l1, j < i := fun j hj => p3 j hj i (by simp)
      have hlt2 : ∀ j ∈ l2, i < j := fun j hj => (List.pairwise_cons.1 p2).1 j hj
      rw [hsplit, List.map_append, List.map_cons] at hA
      have hoi : ops.getD i default = ops[i] := by simp [Array.getD, h1]
      have hA2 := AR.front (l1.map fun i => ops.getD i default) (l2.map fun i => ops.getD i default) s (fun _ t ht => (R.heap.wfree t ht).1) (fun oj hoj => by
        obtain ⟨j, hj, rfl⟩ := List.mem_map.1 hoj
        have hjlt := hlt1 j hj
        have hoj' : ops.getD j default = ops[j]'(by omega) := by simp [Array.getD, show j < ops.size by omega]
        rw [hoi, hoj']
        rcases (chk i h1).2 j hjlt with hanc | hok
        · exfalso
          have hjl := anc_listed hcl j ops.size i h3 hanc
          have hjr : j ∈ rem := by rw [hsplit]; simp [hj]
          have := (memrem.1 (hrem ▸ hjr)).2
          rw [getD_tf (by omega), hjl] at this
          cases this
        · exact hok) hA
      obtain ⟨s1, k1, k2⟩ := hA2
      rw [← List.map_append] at k2
      have hnew : l1 ++ l2 = (List.range ops.size).filter (fun k => !(listed.setIfInBounds i true).getD k true) := by
        have e1 : ∀ k ∈ List.range ops.size, (!(listed.setIfInBounds i true).getD k true) = ((!listed.getD k true) && decide (k ≠ i)) := by
          intro k hk
          have hk' : k < ops.size := by simpa using hk
          by_cases c : k = i
          · subst c
            simp [Array.getD, hsz, h1]
          · have : (listed.setIfInBounds i true).getD k true = listed.getD k true := by
              simp [Array.getElem?_setIfInBounds_ne (show i ≠ k from fun h => c h.symm)]
            rw [this]
            simp [c]
        rw [List.filter_congr e1]
        rw [show (fun k => (!listed.getD k true) && decide (k ≠ i)) = (fun k => decide (k ≠ i) && (!listed.getD k true)) from funext fun k => Bool.and_comm _ _]
        rw [← List.filter_filter, ← hrem, hsplit, List.filter_append, List.filter_cons_of_neg (by simp)]
        rw [List.filter_eq_self.2 (fun j hj => by have := hlt1 j hj; simp; omega), List.filter_eq_self.2 (fun j hj => by have := hlt2 j hj; simp; omega)]
      have hclosed : Closed ops (listed.setIfInBounds i true) := by
        have mono : ∀ k, listed.getD k false = true → (listed.setIfInBounds i true).getD k false = true := fun k hk => by
          by_cases c : k = i
          · subst c
            simp [Array.getD, hsz, h1]
          · have : (listed.setIfInBounds i true).getD k false = listed.getD k false := by
              simp [Array.getElem?_setIfInBounds_ne (show i ≠ k from fun h => c h.symm)]
            rw [this]; exact hk
        intro k o ho hk e he hb
        by_cases c : k = i
        · subst c
          exact mono _ (h3 o ho e he hb)
        · have : (listed.setIfInBounds i true).getD k false = listed.getD k false := by
            simp [Array.getElem?_setIfInBounds_ne (show i ≠ k from fun h => c h.symm)]
          rw [this] at hk
          exact mono _ (hcl k o ho hk e he hb)
      unfold wpOpIn
      simp only [Array.getElem?_eq_getElem h1]
      rw [hoi] at k1
      exact k1.soundIn hF (Q := Q) (K := wpAnyIn F m P .any ops Q fuel (listed.setIfInBounds i true)) R (fun ρ' a' w' R' =>
        ih _ (l1 ++ l2) ρ' s1 a' w' hnew (by simp [hsz]) hclosed (by rw [hsplit] at hlen; simp at hlen ⊢; omega) k2 R')
theorem drew_rel {ρ : Pl} {s : AS} {a : Act} {w : World} (R : Rel E w0 Z0 ρ n s a w) : Rel E w0 Z0 ρ n s a { w with drawn := w.drawn + 1 } := by
  have hb : Below w.heap.size w w.drew := (Below.refl _ _).drew
  exact ⟨R.defers, R.size, fun t => (R.tmps t).ext (Ext.of_below hb) (fun _ _ h => h) (fun _ _ h => h), R.heap.step hb, fun p u h => (R.mem p u h).ext (Ext.of_below hb) (fun _ _ h => h) (fun _ _ h => h)⟩
end Go.Proofs.YtkmkcbkfakoomaaDoor
