/- Facts and contracts that the claim uses. No condition of its own. -/
import Derived.Test.YtdlpbpfcgjgppaaGJonesStatesAU
set_option linter.unusedVariables false
set_option linter.unusedSimpArgs false
namespace Go.Proofs.Ytdlpbpfcgjgppaa
open Go.RowKit
variable {P : Program} {E : PV → Value → Prop} {w0 : World} {Z0 : Nat → Prop} {n : Nat} {cl : Oper → Cls} {ops : Array Oper} {Q : Exit → Act → World → Prop}
theorem range_gt {n m : Nat} (h : m < n) : (List.range n).filter (fun k => decide (m < k)) = List.range' (m + 1) (n - (m + 1)) := by
  have e : List.range n = List.range (m + 1) ++ List.range' (m + 1) (n - (m + 1)) := by
    have h1 : List.range' 0 (m + 1) ++ List.range' (0 + (m + 1)) (n - (m + 1)) = List.range' 0 ((m + 1) + (n - (m + 1))) := List.range'_append_1
    rw [List.range_eq_range', List.range_eq_range', show n = m + 1 + (n - (m + 1)) by omega, ← h1]
    rw [show m + 1 + (n - (m + 1)) - (m + 1) = n - (m + 1) by omega, Nat.zero_add]
  rw [e, List.filter_append, List.filter_eq_nil_iff.2 (fun k hk => by have := List.mem_range.1 hk; simp; omega), List.filter_eq_self.2 (fun k hk => by have := (List.mem_range'_1.1 hk).1; simp; omega)]
  rfl
theorem AR.anyM {F : Fence} (hF : OkF F) {fm m : Nat} (hchk : chkDraw cl ops = true) (hm : m < ops.size) (hanc : ∀ j, j < m → anc ops ops.size m j = true) (haft : ∀ i, m < i → i < ops.size → anc ops ops.size i m = true) {x : Oper} (hx : ops[m]? = some x) (hg : x.guard = none) (hnd : ∀ c, x.op ≠ .defer c) (Kx : AS → Prop)
    (hQ : ∀ ρ s a w, Rel E w0 Z0 ρ n s a w → Kx s → Q .normal a w) (K1 : AS → Prop) (K2 : AS → Prop) (hK2 : ∀ s, K2 s → AR P n cl ops (((List.range ops.size).filter (fun i => decide (m < i))).map (fun i => ops.getD i default)) s Kx)
    (hlast : ∀ ρ s a w, Rel E w0 Z0 ρ n s a w → K1 s → ∀ Kw : Act → World → Prop, (∀ ρ' s' a' w', Rel E w0 Z0 ρ' n s' a' w' → K2 s' → Kw a' w') → x.wp P a w Kw Q) : ∀ (fuel : Nat) (listed : Array Bool) (rem : List Nat) (ρ : Pl) (s : AS) (a : Act) (w : World),
    rem = (List.range m).filter (fun i => !listed.getD i true) → listed.size = ops.size → (∀ k, m ≤ k → k < ops.size → listed.getD k true = false) → Closed ops listed → rem.length + (ops.size - m) ≤ fuel → AR P n cl ops (rem.map (fun i => ops.getD i default)) s K1 → Rel E w0 Z0 ρ n s a w →
    wpAnyIn F fm P .any ops Q fuel listed a w := by
  have chk : ∀ i (hi : i < ops.size), (∀ e ∈ ops[i].after.toList, Region.binds .any e = true → e.on < i) ∧ ∀ j (hj : j < i), anc ops ops.size i j = true ∨ ((ops[j]'(by omega)).apart ops ops[i] = true ∧ clsOk (cl (ops[j]'(by omega))) (cl ops[i]) = true) := by
    intro i hi
    have := List.all_eq_true.1 hchk i (by simpa using hi)
    simp only [Array.getElem?_eq_getElem hi, Bool.and_eq_true] at this
    obtain ⟨h1, h2⟩ := this
    refine ⟨fun e he hb => ?_, fun j hj => ?_⟩
    · rw [Array.all_eq_true'] at h1
      have := h1 e (by simpa using he)
      simpa [hb] using this
    · have := List.all_eq_true.1 h2 j (by simpa using hj)
      simpa [Array.getElem?_eq_getElem (show j < ops.size by omega)] using this
  have memrem : ∀ {listed : Array Bool} {i : Nat}, i ∈ (List.range m).filter (fun i => !listed.getD i true) ↔ i < m ∧ listed.getD i true = false := by
    intro listed i; simp
  have memready : ∀ {listed : Array Bool} {i : Nat}, i ∈ Region.ready .any ops listed → i < ops.size ∧ listed.getD i true = false ∧ ∀ o, ops[i]? = some o → ∀ e ∈ o.after.toList, Region.binds .any e = true → listed.getD e.on false = true := by
    intro listed i hi
    unfold Region.ready at hi
    obtain ⟨h1, h2⟩ := List.mem_filter.1 hi
    have h1' : i < ops.size := by simpa using h1
    simp only [Bool.and_eq_true, Bool.not_eq_true', Array.getElem?_eq_getElem h1', Option.map_some, Option.getD_some] at h2
    refine ⟨h1', h2.1, fun o ho e he hb => ?_⟩
    rw [Array.getElem?_eq_getElem h1'] at ho
    cases ho
    have := (Array.all_eq_true'.1 h2.2) e (by simpa using he)
    simpa [hb] using this
  have mkready : ∀ {listed : Array Bool} {i : Nat} (hi : i < ops.size), listed.size = ops.size → listed.getD i true = false → (∀ k, k < i → listed.getD k true = true) → i ∈ Region.ready .any ops listed := by
    intro listed i hi hsz hl hall
    unfold Region.ready
    refine List.mem_filter.2 ⟨by simpa using hi, ?_⟩
    simp only [hl, Bool.not_false, Array.getElem?_eq_getElem hi, Option.map_some, Option.getD_some, Bool.true_and]
    rw [Array.all_eq_true']
    intro e he
    cases hb : Region.binds .any e with
    | false => simp
    | true =>
      have hlt := (chk i hi).1 e (by simpa using he) hb
      have := hall e.on hlt
      rw [getD_tf (by omega)] at this
      simp [this]
  intro fuel
  induction fuel with
  | zero => intro listed rem ρ s a w hrem hsz hlm hcl hlen; omega
  | succ fuel ih =>
    intro listed rem ρ s a w hrem hsz hlm hcl hlen hA R
    have hpw : rem.Pairwise (· < ·) := by rw [hrem]; exact List.Pairwise.filter _ List.pairwise_lt_range
    refine ⟨fun hnil => ?_, fun i hi => ?_⟩
    · exfalso
      cases hr : rem with
      | nil =>
        have := mkready (listed := listed) (i := m) (by omega) hsz (hlm m (Nat.le_refl _) hm) (fun k hk => by
          cases hx : listed.getD k true with
          | true => rfl
          | false => have : k ∈ rem := by rw [hrem]; exact memrem.2 ⟨hk, hx⟩
                     rw [hr] at this; cases this)
        rw [hnil] at this; cases this
      | cons i rest =>
        have him : i ∈ rem := by rw [hr]; simp
        have hi2 := memrem.1 (hrem ▸ him)
        have := mkready (listed := listed) (i := i) (by omega) hsz hi2.2 (fun k hk => by
          cases hx : listed.getD k true with
          | true => rfl
          | false =>
            have hkr : k ∈ rem := by rw [hrem]; exact memrem.2 ⟨by omega, hx⟩
            rw [hr] at hkr hpw
            rcases List.mem_cons.1 hkr with h | h
            · omega
            · have := (List.pairwise_cons.1 hpw).1 _ h; omega)
        rw [hnil] at this; cases this
    · obtain ⟨h1, h2, h3⟩ := memready hi
      by_cases him : i = m
      · subst him
        have hr0 : rem = [] := by
          rw [List.eq_nil_iff_forall_not_mem]
          intro j hj
          have hj2 := memrem.1 (hrem ▸ hj)
          have := anc_listed hcl j ops.size i h3 (hanc j hj2.1)
          rw [getD_tf (by omega)] at hj2
          rw [this] at hj2
          cases hj2.2
        rw [hr0] at hA
        unfold wpOpIn
        simp only [hx]
        rw [if_pos (by simp only [Region.wanted, hg])]
        have hset : ∀ k, k ≠ i → ∀ b, (listed.setIfInBounds i true).getD k b = listed.getD k b := fun k c b => by
          simp [Array.getElem?_setIfInBounds_ne (show i ≠ k from fun h => c h.symm)]
        have hlow : ∀ k, k < i → listed.getD k true = true := fun k hk => by
          cases hx : listed.getD k true with
          | true => rfl
          | false => have : k ∈ rem := by rw [hrem]; exact memrem.2 ⟨hk, hx⟩
                     rw [hr0] at this; cases this
        have hfil : ((List.range ops.size).filter (fun k => decide (i < k))) = (List.range ops.size).filter (fun k => !(listed.setIfInBounds i true).getD k true) := by
          refine List.filter_congr (fun k hk => ?_)
          have hk' : k < ops.size := List.mem_range.1 hk
          by_cases c : k = i
          · subst c
            simp [Array.getD, hsz, h1]
          · rw [hset k c]
            by_cases c2 : k < i
            · rw [hlow k c2]; simp; omega
            · rw [hlm k (by omega) hk']; simp; omega
        have hclosed : Closed ops (listed.setIfInBounds i true) := by
          have mono : ∀ k, listed.getD k false = true → (listed.setIfInBounds i true).getD k false = true := fun k hk => by
            by_cases c : k = i
            · subst c
              simp [Array.getD, hsz, h1]
            · rw [hset k c]; exact hk
          intro k o ho hk e he hb
          by_cases c : k = i
          · subst c
            exact mono _ (h3 o ho e he hb)
          · rw [hset k c] at hk
            exact mono _ (hcl k o ho hk e he hb)
        refine op_in hF hnd (hlast ρ s a w R hA _ (fun ρ' s' a' w' R' hk => AR.any hF hchk Kx hQ fuel _ _ ρ' s' a' w' hfil (by simp [hsz]) hclosed ?_ (hK2 s' hk) R'))
        have hle : ((List.range ops.size).filter (fun k => decide (i < k))).length ≤ ops.size - (i + 1) := by
          rw [range_gt hm, List.length_range']; exact Nat.le_refl _
        have hlen' : 0 + (ops.size - i) ≤ fuel + 1 := by rw [hr0] at hlen; simpa using hlen
        omega
      have hilt : i < m := by
        apply Classical.byContradiction; intro hc
        have := anc_listed hcl m ops.size i h3 (haft i (by omega) h1)
        have h4 := hlm m (Nat.le_refl _) hm
        rw [getD_tf (by omega)] at h4
        rw [this] at h4; cases h4
      have him2 : i ∈ rem := by rw [hrem]; exact memrem.2 ⟨by omega, h2⟩
      obtain ⟨l1, l2, hsplit⟩ := List.append_of_mem him2
      rw [hsplit] at hpw
      obtain ⟨p1, p2, p3⟩ := List.pairwise_append.1 hpw
      have hlt1 : ∀ j ∈ l1, j < i := fun j hj => p3 j hj i (by simp)
      have hlt2 : ∀ j ∈ l2, i < j := fun j hj => (List.pairwise_cons.1 p2).1 j hj
      rw [hsplit, List.map_append, List.map_cons] at hA
      have hoi : ops.getD i default = ops[i] := by simp [Array.getD, h1]
      have hA2 := AR.front (l1.map fun i => ops.getD i default) (l2.map fun i => ops.getD i default) s (fun _ t ht => (R.heap.wfree t ht).1) (fun oj hoj => by
        obtain ⟨j, hj, rfl⟩ := List.mem_map.1 hoj
        have hjlt := hlt1 j hj
        have hoj' : ops.getD j default = ops[j]'(by omega) := by simp [Array.getD, show j < ops.size by omega]
        rw [hoi, hoj']
        rcases (chk i h1).2 j hjlt with hanc | hok
        · exfalso
          have hjl := anc_listed hcl j ops.size i h3 hanc
          have hjr : j ∈ rem := by rw [hsplit]; simp [hj]
          have := (memrem.1 (hrem ▸ hjr)).2
          rw [getD_tf (by omega), hjl] at this
          cases this
        · exact hok) hA
      obtain ⟨s1, k1, k2⟩ := hA2
      rw [← List.map_append] at k2
      have hset : ∀ k, k ≠ i → ∀ b, (listed.setIfInBounds i true).getD k b = listed.getD k b := fun k c b => by
        simp [Array.getElem?_setIfInBounds_ne (show i ≠ k from fun h => c h.symm)]
      have hnew : l1 ++ l2 = (List.range m).filter (fun k => !(listed.setIfInBounds i true).getD k true) := by
        have e1 : ∀ k ∈ List.range m, (!(listed.setIfInBounds i true).getD k true) = ((!listed.getD k true) && decide (k ≠ i)) := by
          intro k hk
          by_cases c : k = i
          · subst c
            simp [Array.getD, hsz, h1]
          · rw [hset k c]
            simp [c]
        rw [List.filter_congr e1]
        rw [show (fun k => (!listed.getD k true) && decide (k ≠ i)) = (fun k => decide (k ≠ i) && (!listed.getD k true)) from funext fun k => Bool.and_comm _ _]
        rw [← List.filter_filter, ← hrem, hsplit, List.filter_append, List.filter_cons_of_neg (by simp)]
        rw [List.filter_eq_self.2 (fun j hj => by have := hlt1 j hj; simp; omega), List.filter_eq_self.2 (fun j hj => by have := hlt2 j hj; simp; omega)]
      have hclosed : Closed ops (listed.setIfInBounds i true) := by
        have mono : ∀ k, listed.getD k false = true → (listed.setIfInBounds i true).getD k false = true := fun k hk => by
          by_cases c : k = i
          · subst c
            simp [Array.getD, hsz, h1]
          · rw [hset k c]; exact hk
        intro k o ho hk e he hb
        by_cases c : k = i
        · subst c
          exact mono _ (h3 o ho e he hb)
        · rw [hset k c] at hk
          exact mono _ (hcl k o ho hk e he hb)
      unfold wpOpIn
      simp only [Array.getElem?_eq_getElem h1]
      rw [hoi] at k1
      exact k1.soundIn hF (Q := Q) (K := wpAnyIn F fm P .any ops Q fuel (listed.setIfInBounds i true)) R (fun ρ' a' w' R' =>
        ih _ (l1 ++ l2) ρ' s1 a' w' hnew (by simp [hsz]) (fun k h4 h5 => by rw [hset k (by omega)]; exact hlm k h4 h5) hclosed (by rw [hsplit] at hlen; simp at hlen ⊢; omega) k2 R')
def midOk (ops : Array Oper) (m : Nat) : Bool := Nat.blt m ops.size && (List.range m).all (fun j => anc ops ops.size m j) && (List.range ops.size).all (fun i => Nat.ble i m || anc ops ops.size i m)
theorem CW.regionDM {T : TypeId → TI} {M : Hn} {id : Nat} {o : List Oper} {s : AS} {Q : Exit → AS → Prop} (m : Nat) (hl : midOk o.toArray m = true) {x : Oper} (hx : o[m]? = some x) (hg : x.guard = none) (hnd : ∀ c, x.op ≠ .defer c) (hk : AW P T M (clsOf M) o.toArray (o.take m) s (fun s' => LW P T n x s' (fun s2 => AW P T M (clsOf M) o.toArray (o.drop (m + 1)) s2 (Q .normal)))) : CW P T M n (.region id o.toArray true) s Q := by
  refine ⟨fun h1 h2 h3 => ?_⟩
  simp only [codeOk, Bool.and_eq_true, Bool.or_eq_true, Bool.not_eq_true'] at h3
  simp only [midOk, Bool.and_eq_true, List.all_eq_true, Bool.or_eq_true] at hl
  have hsz : m < o.toArray.size := by simpa [Nat.blt_eq] using hl.1.1
  have hol : m < o.length := by simpa using hsz
  have hwr : clsOf M ≠ fun _ => Cls.wr := fun hc => by have := congrFun hc ⟨none, .load 0 (.const undef), 0, "", #[], none⟩; simp [clsOf, inL] at this
  intro E w0 Z0 ρ a w R F hF fm
  have hd0 := h3.1
  simp only [dstOk, List.all_eq_true] at hd0
  have hd : dstOk n (o.take m) = true := by
    simp only [dstOk, List.all_eq_true]
    exact fun y hy => hd0 y (by simpa using List.mem_of_mem_take hy)
  have hd2 : dstOk n (o.drop (m + 1)) = true := by
    simp only [dstOk, List.all_eq_true]
    exact fun y hy => hd0 y (by simpa using List.mem_of_mem_drop hy)
  have hAR := AD_sound h1 hwr (o.take m) s hd hk.out
  refine wpIn_region_any h2 (AR.anyM hF (h3.2.resolve_left (by simp)) hsz (fun j hj => hl.1.2 j (by simpa using hj)) (fun i hi hi2 => (hl.2 i (by simpa using hi2)).resolve_left (fun hb => by have := Nat.le_of_ble_eq_true hb; omega)) (x := x) (by simpa using hx) hg hnd (Q .normal) (fun ρ s a w R' hq => ⟨ρ, s, R', hq⟩)
    (fun s' => LW P T n x s' (fun s2 => AW P T M (clsOf M) o.toArray (o.drop (m + 1)) s2 (Q .normal))) (fun s2 => AW P T M (clsOf M) o.toArray (o.drop (m + 1)) s2 (Q .normal)) ?_ ?_ o.toArray.size (Array.replicate o.toArray.size false) (List.range m) ρ s a _ ?_ (by simp) ?_ ?_ (by simp; omega) ?_ (drew_rel R))
  · intro s2 hs2
    have := AD_sound h1 hwr (o.drop (m + 1)) s2 hd2 hs2.out
    have e : ((List.range o.toArray.size).filter (fun i => decide (m < i))).map (fun i => o.toArray.getD i default) = o.drop (m + 1) := by
      rw [range_gt hsz]
      apply List.ext_getElem
      · simp
      · intro i k1 k2
        have : m + 1 + i < o.length := by simp at k1; omega
        simp [Array.getD, this]
    rw [e]; exact this
  · intro ρ s a w R' hk' Kw hKw
    exact hk'.out h1 E w0 Z0 ρ a w Kw _ R' hKw
  · rw [List.filter_eq_self.2]
    intro i hi
    have : i < o.length := by have := List.mem_range.1 hi; omega
    simp [Array.getD, this]
  · intro k _ hk
    have : k < o.length := by simpa using hk
    simp [Array.getD, this]
  · intro i y ho hl
    exfalso
    have : i < o.length := by
      apply Classical.byContradiction; intro hc'
      rw [Array.getElem?_eq_none (by simp; omega)] at ho; cases ho
    simp [Array.getD, this] at hl
  · have e : (List.range m).map (fun i => o.toArray.getD i default) = o.take m := by
      apply List.ext_getElem
      · simp; omega
      · intro i h1 h2
        have : i < m := by simpa using h1
        simp [Array.getD, show i < o.length by omega]
    rw [e]; exact hAR
def HP.emp (h : HP) : HP := ⟨fun _ => none, h.next, fun _ => none, h.win⟩
theorem CW.frzAll {T : TypeId → TI} {M : Hn} {c : Code} {t t' : Nat → PV} {h : HP} {Q : Exit → AS → Prop} (ht : ∀ d, t' d = .junk ∨ Fz h (t d) (t' d)) (hk : CW P T M n c ⟨t', h.emp⟩ Q) : CW P T M n c ⟨t, h⟩ Q := by
  refine ⟨fun h1 h2 h3 => ?_⟩
  intro E w0 Z0 ρ a w R
  have hZ : ∀ b, b < w.heap.size → Zof Z0 ρ h.emp b → Zof Z0 ρ h b := by
    rintro b _ (hz | ⟨t, cs, o, q, _⟩ | ⟨t, c, q, _⟩)
    · exact .inl hz
    · cases q
    · cases q
  refine (hk.out h1 h2 h3) E w0 Z0 ρ a w ⟨R.defers, R.size, fun d => ?_, ⟨R.heap.below, R.heap.z0, fun t cs q => (by cases q), fun t t' cs cs' b o o' q => (by cases q), fun t hlt => ⟨rfl, (R.heap.free t hlt).2⟩, fun t c q => (by cases q), fun t t' c c' b q => (by cases q), fun t hw => ⟨rfl, (R.heap.wfree t hw).2⟩⟩, fun p u hp => (R.mem p u hp).mono hZ⟩
  rcases ht d with e | hf
  · show V _ _ _ (t' d) _
    rw [e]; exact .junk _
  · have hv := hf.sound R.heap _ (R.tmps d)
    refine hv.ext (Ext.refl _ _) (fun b _ hz => ?_) (fun t p hp => by cases hp)
    rcases hz with hz | ⟨t, cs, o, q, _⟩ | ⟨t, c, q, _⟩
    · exact hz
    · cases q
    · cases q
end Go.Proofs.Ytdlpbpfcgjgppaa
