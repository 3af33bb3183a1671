/- Facts and contracts that the claim uses. No condition of its own. -/
import Derived.Test.YtdlpbpfcgjgppaaGJonesStatesBX
import Derived.Test.YtdlpbpfcgjgppaaGJonesStatesBW
import Derived.Test.YtdlpbpfcgjgppaaGJonesStatesBK
set_option linter.unusedVariables false
set_option linter.unusedSimpArgs false
namespace Go.Proofs.Ytdlpbpfcgjgppaa
open Go.RowKit
theorem jT_eval {n : Nat} {w : List Int} (hn : 1 ≤ n ∧ n ≤ 6) (hw : lett n w) (hl : w.length ≤ 7) (s : Nat) {o : Nat → Nat} {c q : Nat} (hs : stkC n w.length (fun k => chM n (w.getD k 0) (bitF s k)) o c = true)
    (hq : cntL (2 * n) (lbl (2 * n) (prsC n (fnL (tabN (2 * n) o)))) = q) : jT n w s = LP.mono 1 (wtB w (bitF s) w.length) * dpow (c + q - 1) := by
  obtain ⟨o', S, e1, e2, _⟩ := jKn_bd hn hw hl s
  have S2 := stkC_ok (fun j hj => chM_mt (lett_get hw hj) (bitF s j)) hs
  obtain ⟨u1, u2⟩ := S.uniq S2
  have et : tabN (2 * n) o' = tabN (2 * n) o := tab_ext u1
  have hv := vd_tab S2.mt
  have ec : clD n (tabN (2 * n) o) = q := by
    unfold clD
    rw [cntL_ok (fun p hp => by
      obtain ⟨i, hi, hp⟩ := List.mem_flatMap.1 hp
      have hi := List.mem_range.1 hi
      have h1 := hv.1.lt i hi
      have h2 := (opp_mt n).lt i hi
      simp only [List.mem_cons, List.not_mem_nil, or_false] at hp
      rcases hp with rfl | rfl
      · exact ⟨hi, h1⟩
      · exact ⟨hi, h2⟩), hq]
  rw [e2]
  unfold jKn
  rw [e1, et, ec, u2]
theorem lett1 : lett 2 [1] := fun x hx => by simp only [List.mem_singleton] at hx; subst hx; decide
theorem jnB_one : poW (jnB 2 [1]) = (3, [-1]) := by
  have h0 := jT_eval (n := 2) (w := [1]) (by omega) lett1 (by simp) 0 (o := oneM 2) (c := 0) (q := 2) (by decide +kernel) (by decide +kernel)
  have h1 := jT_eval (n := 2) (w := [1]) (by omega) lett1 (by simp) 1 (o := cupM 2 0) (c := 0) (q := 1) (by decide +kernel) (by decide +kernel)
  have w0 : wtB [1] (bitF 0) [(1 : Int)].length = 1 := by decide +kernel
  have w1 : wtB [1] (bitF 1) [(1 : Int)].length = -1 := by decide +kernel
  rw [w0] at h0
  rw [w1] at h1
  have e : jnB 2 [1] = LP.mono (-1) 3 := by
    rw [jn_sum]
    show 0 + jT 2 [1] 0 + jT 2 [1] 1 = _
    rw [LP.zero_add, h0, h1]
    show LP.mono 1 1 * (1 * dlt) + LP.mono 1 (-1) * 1 = _
    rw [LP.one_mul, LP.mul_one]
    unfold dlt
    rw [LP.mul_add, LP.mono_mono, LP.mono_mono]
    refine LP.ext fun e => ?_
    simp only [LP.add_f, LP.mono_f]
    split <;> split <;> split <;> omega
  rw [e]
  have e2 : poW (LP.mono (-1) 3) = poW (lpo (3, [-1])) := poW_eq fun x => by
    show wrp ((LP.mono (-1) 3).f x) = wrp (co (3, [-1]) x)
    rw [LP.mono_f]
    by_cases h : x = 3
    · subst h; rfl
    · rw [if_neg h]
      by_cases h2 : x < 3
      · rw [co_lo (by simpa using h2)]
      · rw [co_hi (by simp; omega)]
  rw [e2]
  exact poW_lpo (.inr (by simp)) (fun x hx => by simp only [List.mem_singleton] at hx; subst hx; unfold in64; omega)
end Go.Proofs.Ytdlpbpfcgjgppaa

/- Facts and contracts that the claim uses. No condition of its own. -/
set_option linter.unusedVariables false
set_option linter.unusedSimpArgs false
namespace Go.Proofs.Ytdlpbpfcgjgppaa
open Go.RowKit
def maskO (ms : List Nat) (o : Oper) : Nat := o.after.toList.foldl (fun m e => if Region.binds .any e then Nat.lor m (Nat.lor (Nat.shiftLeft 1 e.on) (ms.getD e.on 0)) else m) 0
def masks : List Oper → List Nat → List Nat
  | [], ms => ms
  | o :: l, ms => masks l (ms ++ [maskO ms o])
def chkDraw3 (cl : Oper → Cls) (ops : Array Oper) : Bool :=
  let ms := masks ops.toList []
  (List.range ops.size).all fun i => match ops[i]? with
    | none => false
    | some oi => (oi.after.all fun e => !Region.binds .any e || decide (e.on < i)) &&
      (List.range i).all fun j => match ops[j]? with
        | none => false
        | some oj => (clsOk (cl oj) (cl oi) && oj.apart ops oi) || Nat.testBit (ms.getD i 0) j
def codeOk3 (M : Hn) (n : Nat) : Code → Bool
  | .seq x y => codeOk3 M n x && codeOk3 M n y
  | .block _ c => codeOk3 M n c
  | .cond _ x y => codeOk3 M n x && codeOk3 M n y
  | .region _ ops d => dstOk n ops.toList && (!d || chkDraw3 (clsOf M) ops)
  | .loop c => codeOk3 M n c
  | _ => true
theorem fold_mask {ms : List Nat} {j : Nat} : ∀ (l : List Edge) (m : Nat), (l.foldl (fun m e => if Region.binds .any e then Nat.lor m (Nat.lor (Nat.shiftLeft 1 e.on) (ms.getD e.on 0)) else m) m).testBit j = true →
    m.testBit j = true ∨ ∃ e ∈ l, Region.binds .any e = true ∧ (e.on = j ∨ (ms.getD e.on 0).testBit j = true)
  | [], m, h => .inl h
  | e :: l, m, h => by
    rw [List.foldl_cons] at h
    rcases fold_mask l _ h with h1 | ⟨e', h1, h2, h3⟩
    · by_cases hb : Region.binds .any e = true
      · rw [if_pos hb] at h1
        have h1' : (m ||| ((1 <<< e.on) ||| ms.getD e.on 0)).testBit j = true := h1
        rw [Nat.testBit_or, Nat.testBit_or, Nat.one_shiftLeft, Nat.testBit_two_pow, Bool.or_eq_true, Bool.or_eq_true, decide_eq_true_eq] at h1'
        rcases h1' with h1' | h1' | h1'
        · exact .inl h1'
        · exact .inr ⟨e, by simp, hb, .inl h1'⟩
        · exact .inr ⟨e, by simp, hb, .inr h1'⟩
      · rw [if_neg hb] at h1; exact .inl h1
    · exact .inr ⟨e', by simp [h1], h2, h3⟩
theorem maskO_spec {ms : List Nat} {o : Oper} {j : Nat} (h : (maskO ms o).testBit j = true) : ∃ e ∈ o.after.toList, Region.binds .any e = true ∧ (e.on = j ∨ (ms.getD e.on 0).testBit j = true) := by
  rcases fold_mask _ _ h with h | h
  · simp at h
  · exact h
theorem masks_app : ∀ (l : List Oper) (ms : List Nat), ∃ r, masks l ms = ms ++ r ∧ r.length = l.length
  | [], ms => ⟨[], by simp [masks], rfl⟩
  | o :: l, ms => by
    obtain ⟨r, h1, h2⟩ := masks_app l (ms ++ [maskO ms o])
    exact ⟨maskO ms o :: r, by show masks l _ = _; rw [h1]; simp, by simp [h2]⟩
theorem masks_get : ∀ (l : List Oper) (ms : List Nat) (k : Nat) (hk : k < l.length), (masks l ms).getD (ms.length + k) 0 = maskO ((masks l ms).take (ms.length + k)) l[k]
  | o :: l, ms, 0, _ => by
    obtain ⟨r, h1, h2⟩ := masks_app l (ms ++ [maskO ms o])
    show (masks l (ms ++ [maskO ms o])).getD _ 0 = maskO ((masks l (ms ++ [maskO ms o])).take _) _
    rw [h1]
    simp [List.getD]
  | o :: l, ms, k + 1, hk => by
    have := masks_get l (ms ++ [maskO ms o]) k (by simpa using hk)
    rw [List.length_append, List.length_singleton, show ms.length + 1 + k = ms.length + (k + 1) by omega] at this
    exact this
theorem anc_up {ops : Array Oper} {j : Nat} : ∀ (f i : Nat), anc ops f i j = true → anc ops (f + 1) i j = true
  | 0, i, h => by simp [anc] at h
  | f + 1, i, h => by
    simp only [anc] at h ⊢
    cases ho : ops[i]? with
    | none => simp [ho] at h
    | some o =>
      simp only [ho] at h ⊢
      rw [Array.any_eq_true'] at h ⊢
      obtain ⟨e, he, h⟩ := h
      refine ⟨e, he, ?_⟩
      simp only [Bool.and_eq_true, Bool.or_eq_true] at h ⊢
      exact ⟨h.1, h.2.imp id (fun h2 => anc_up f e.on h2)⟩
theorem anc_le {ops : Array Oper} {i j f g : Nat} (h : anc ops f i j = true) (hl : f ≤ g) : anc ops g i j = true := by
  obtain ⟨k, rfl⟩ : ∃ k, g = f + k := ⟨g - f, by omega⟩
  induction k with
  | zero => exact h
  | succ k ih => exact anc_up _ _ (ih (by omega))
theorem mask_anc {ops : Array Oper} (hb : ∀ i (hi : i < ops.size), ∀ e ∈ ops[i].after.toList, Region.binds .any e = true → e.on < i) {j : Nat} : ∀ i, i < ops.size → ((masks ops.toList []).getD i 0).testBit j = true → anc ops (i + 1) i j = true := by
  intro i
  induction i using Nat.strongRecOn with
  | _ i ih =>
    intro hi h
    have hm := masks_get ops.toList [] i (by simpa using hi)
    rw [List.length_nil, Nat.zero_add, Array.getElem_toList] at hm
    rw [hm] at h
    obtain ⟨e, h1, h2, h3⟩ := maskO_spec h
    have hlt := hb i hi e h1 h2
    simp only [anc, Array.getElem?_eq_getElem hi]
    rw [Array.any_eq_true']
    refine ⟨e, by simpa using h1, ?_⟩
    simp only [Bool.and_eq_true, Bool.or_eq_true, beq_iff_eq]
    refine ⟨h2, ?_⟩
    rcases h3 with h3 | h3
    · exact .inl h3
    · refine .inr (anc_le (ih e.on hlt (by omega) ?_) hlt)
      rwa [show ((masks ops.toList []).take i).getD e.on 0 = (masks ops.toList []).getD e.on 0 by simp [List.getD, List.getElem?_take, hlt]] at h3
theorem chk3_ok {cl : Oper → Cls} {ops : Array Oper} (h : chkDraw3 cl ops = true) : chkDraw cl ops = true := by
  unfold chkDraw3 at h
  have h' := List.all_eq_true.1 h
  have hb : ∀ i (hi : i < ops.size), (ops[i].after.all fun e => !Region.binds .any e || decide (e.on < i)) = true ∧ ∀ j (hj : j < i), (clsOk (cl (ops[j]'(by omega))) (cl ops[i]) && (ops[j]'(by omega)).apart ops ops[i] || Nat.testBit ((masks ops.toList []).getD i 0) j) = true := by
    intro i hi
    have := h' i (by simpa using hi)
    simp only [Array.getElem?_eq_getElem hi, Bool.and_eq_true] at this
    refine ⟨this.1, fun j hj => ?_⟩
    have h2 := List.all_eq_true.1 this.2 j (by simpa using hj)
    simpa [Array.getElem?_eq_getElem (show j < ops.size by omega)] using h2
  have hlt : ∀ i (hi : i < ops.size), ∀ e ∈ ops[i].after.toList, Region.binds .any e = true → e.on < i := by
    intro i hi e he hbe
    have := (hb i hi).1
    rw [Array.all_eq_true'] at this
    have := this e (by simpa using he)
    simpa [hbe] using this
  unfold chkDraw
  refine List.all_eq_true.2 (fun i hi => ?_)
  have hi' : i < ops.size := by simpa using hi
  simp only [Array.getElem?_eq_getElem hi', Bool.and_eq_true]
  refine ⟨(hb i hi').1, List.all_eq_true.2 (fun j hj => ?_)⟩
  have hj' : j < i := by simpa using hj
  simp only [Array.getElem?_eq_getElem (show j < ops.size by omega), Bool.or_eq_true, Bool.and_eq_true]
  have := (hb i hi').2 j hj'
  rw [Bool.or_eq_true, Bool.and_eq_true] at this
  rcases this with h1 | h1
  · exact .inr ⟨h1.2, h1.1⟩
  · exact .inl (anc_le (mask_anc hlt i hi' h1) hi')
theorem code3_ok {M : Hn} {n : Nat} : ∀ {c : Code}, codeOk3 M n c = true → codeOk M n c = true := by
  intro c
  induction c with
  | seq x y ihx ihy => intro h; simp only [codeOk3, codeOk, Bool.and_eq_true] at h ⊢; exact ⟨ihx h.1, ihy h.2⟩
  | block id c ih => intro h; exact ih h
  | cond t x y ihx ihy => intro h; simp only [codeOk3, codeOk, Bool.and_eq_true] at h ⊢; exact ⟨ihx h.1, ihy h.2⟩
  | region i ops d => intro h; simp only [codeOk3, codeOk, Bool.and_eq_true, Bool.or_eq_true] at h ⊢; exact ⟨h.1, h.2.imp (fun q => q) chk3_ok⟩
  | loop c ih => intro h; exact ih h
  | _ => intro _; rfl
end Go.Proofs.Ytdlpbpfcgjgppaa
