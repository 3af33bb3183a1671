/- Facts and contracts that the claim uses. No condition of its own. -/
import Derived.Test.YtdlpbpfcgjgppaaGJonesStatesBO
import Derived.Test.YtdlpbpfcgjgppaaGJonesStatesBK
set_option linter.unusedVariables false
set_option linter.unusedSimpArgs false
namespace Go.Proofs.Ytdlpbpfcgjgppaa
open Go.RowKit
theorem gCls_le (n : Nat) (d : Nat → Nat) : ∀ k v, (gCls n d k v).length ≤ 2 * k
  | 0, v => by show ([] : List Nat).length ≤ _; simp
  | k + 1, v => by
    have ih := gCls_le n d k v
    show ((if k < n then addL (if k < d k then addL (gCls n d k) k (d k) else gCls n d k) k (n + k) else (if k < d k then addL (gCls n d k) k (d k) else gCls n d k)) v).length ≤ _
    have h1 : ((if k < d k then addL (gCls n d k) k (d k) else gCls n d k) v).length ≤ 2 * k + 1 := by
      split
      · have := addL_len (gCls n d k) k (d k) v; omega
      · omega
    generalize (if k < d k then addL (gCls n d k) k (d k) else gCls n d k) = g1 at *
    split
    · have := addL_len g1 k (n + k) v; omega
    · omega
set_option maxHeartbeats 40000000 in
set_option maxRecDepth 100000 in
theorem close_s {n : Nat} {d : Nat → Nat} {c : Nat} (hn : 1 ≤ n ∧ n ≤ 9) (hd : Mt n d) (hfix : ∀ c', Lp (2 * n) 0 (gCls n d (2 * n)) c' → c' = c) :
    SC Try.prog 54 [pint n, pli (tabN (2 * n) d)] (pint c) := by
  have kN := newGraph_e (m := 2 * n) (by omega) H0
  refine SC.go {} tok mixed Try.func54 rfl rfl Try.ntmps54 rfl rfl (by kernel_rfl) ?_
  have l1 : (tabN (2 * n) d).length = 2 * n := tab_len _ _
  first | simp only [updS] | simp only [updL, Nat.reduceAdd]
  repeat (first | refine S0 ?_ | refine S1 ?_ | refine S2 ?_ | refine S4 ?_ | refine S5 ?_ | refine S6 ?_ | refine S7 ?_ | refine S8 ?_ | refine S10 ?_ | refine S11 ?_ | refine S13 ?_ | refine S15 ?_ | refine S16 ?_ | refine S19 ?_ | refine S20 ?_ | refine S21 ?_ | refine S22 ?_ | refine S23 ?_ | refine S25 ?_ | refine S26 ?_ | refine S51 ?_)
  rw [show 2 * (n : Int) = ((2 * n : Nat) : Int) by omega]
  refine Scalle (args := [pint (2 * n : Nat)]) kN ?_
  rintro r X ⟨rfl, B1, B2, hnx, hFx⟩
  iterate 3 (first | refine S0 ?_ | refine S1 ?_ | refine S2 ?_ | refine S4 ?_ | refine S5 ?_ | refine S6 ?_ | refine S7 ?_ | refine S8 ?_ | refine S10 ?_ | refine S11 ?_ | refine S13 ?_ | refine S15 ?_ | refine S16 ?_ | refine S19 ?_ | refine S20 ?_ | refine S21 ?_ | refine S22 ?_ | refine S23 ?_ | refine S25 ?_ | refine S26 ?_ | refine S51 ?_)
  obtain ⟨T, hT⟩ : ∃ T, T = 2 * H0.next := ⟨_, rfl⟩
  obtain ⟨tf, htf⟩ : ∃ tf, tf = 2 * (H0.next + 1) + 1 := ⟨_, rfl⟩
  rw [← htf] at B1 ⊢
  rw [← hT] at B1 B2
  have ho : tf % 2 = 1 := by omega
  have hev : T % 2 = 0 := by omega
  have hTl : T < 2 * X.next := by omega
  have htl : tf < 2 * X.next := by omega
  refine ownAll (m := 2 * n) (s' := 0) (T := T) (h0 := X) hTl hev ?_ (2 * n) 0 (fun _ => 0) X (by omega) (by rw [ocs_zero]; exact B2) (fun v hv => absurd hv (Nat.not_lt_zero _)) (fun x y hv => absurd hv (Nat.not_lt_zero _)) (fun v hv => absurd hv (Nat.not_lt_zero _)) (Fr.refl _ _)
  intro tk h1 H hge hF1
  have hv : h1.blk tf = some [.ref T 0 1 (2 * n)] := hF1.get htl (by rw [List.mem_singleton]; omega) B1
  have hl1 : tf < 2 * h1.next := by have := hF1.next; omega
  clear hF1 hge B1 B2 hnx hT htf hTl htl kN
  repeat (first | refine S0 ?_ | refine S1 ?_ | refine S2 ?_ | refine S4 ?_ | refine S5 ?_ | refine S6 ?_ | refine S7 ?_ | refine S8 ?_ | refine S10 ?_ | refine S11 ?_ | refine S13 ?_ | refine S15 ?_ | refine S16 ?_ | refine S19 ?_ | refine S20 ?_ | refine S21 ?_ | refine S22 ?_ | refine S23 ?_ | refine S25 ?_ | refine S26 ?_ | refine S51 ?_)
  refine CW.loopS (fun i : Nat × (Nat → Nat) × (Nat → Nat) => i.1 ≤ 2 * n) (fun i => [(0, pint n), (5, .ptr tf 0), (11, pli (tabN (2 * n) d)), (12, pint (tabN (2 * n) d).length), (13, pint i.1)])
    (fun i hp => GH (2 * n) T i.2.1 i.2.2 (gCls n d i.1) hp ∧ hp.blk tf = some [.ref T 0 1 (2 * n)] ∧ tf < 2 * hp.next) (fun i => 2 * n - i.1) (0, tk, fun _ => 0) ⟨Nat.zero_le _, SLx, H, hv, hl1⟩ ?_
  clear H hv hl1 h1 hFx X
  clear tk
  rintro ⟨k, tk, off⟩ t hp hk ⟨H, hv, hl⟩
  simp only at hk H
  first | simp only [updS] | simp only [updL, Nat.reduceAdd]
  by_cases hk2 : k < 2 * n
  · have ga : (tabN (2 * n) d).getD k 0 = (d k : Int) := tabN_get hk2
    have ha1 := hd.lt k hk2
    have ha2 := hd.ne k hk2
    have hle := gCls_le n d k
    have e1 : gCls n d (k + 1) = if k < n then addL (if k < d k then addL (gCls n d k) k (d k) else gCls n d k) k (n + k) else (if k < d k then addL (gCls n d k) k (d k) else gCls n d k) := rfl
    by_cases c1 : k < d k
    · have kl1 := line_e (n := 2 * n) (a := k) (b := d k) (by omega) (by omega) (by omega) (by omega) (by have := hle k; omega) (by have := hle (d k); omega) _ hv H ho hl
      repeat (first | refine S0 ?_ | refine S1 ?_ | refine S2 ?_ | refine S4 ?_ | refine S5 ?_ | refine S6 ?_ | refine S7 ?_ | refine S8 ?_ | refine S10 ?_ | refine S11 ?_ | refine S13 ?_ | refine S15 ?_ | refine S16 ?_ | refine S19 ?_ | refine S20 ?_ | refine S21 ?_ | refine S22 ?_ | refine S23 ?_ | refine S25 ?_ | refine S26 ?_ | refine S51 ?_)
      rw [ga]
      refine Scalle (args := [.ptr tf 0, pint k, pint (d k)]) kl1 ?_
      clear H hv hl
      rintro r h1 ⟨tk1, off1, hv, H, hl⟩
      have hlg : ∀ v, (addL (gCls n d k) k (d k) v).length ≤ 2 * k + 1 := fun v => by have h3 := addL_len (gCls n d k) k (d k) v; have h4 := hle v; omega
      by_cases c2 : k < n
      · have kl2 := line_e (n := 2 * n) (a := k) (b := n + k) (by omega) (by omega) (by omega) (by omega) (by have := hlg k; omega) (by have := hlg (n + k); omega) _ hv H ho hl
        rw [show ((n + k : Nat) : Int) = (n : Int) + (k : Int) from rfl] at kl2
        repeat (first | refine S0 ?_ | refine S1 ?_ | refine S2 ?_ | refine S4 ?_ | refine S5 ?_ | refine S6 ?_ | refine S7 ?_ | refine S8 ?_ | refine S10 ?_ | refine S11 ?_ | refine S13 ?_ | refine S15 ?_ | refine S16 ?_ | refine S19 ?_ | refine S20 ?_ | refine S21 ?_ | refine S22 ?_ | refine S23 ?_ | refine S25 ?_ | refine S26 ?_ | refine S51 ?_)
        refine Scalle (args := [.ptr tf 0, pint k, pint ((n : Int) + (k : Int))]) kl2 ?_
        rintro r h2 ⟨tk2, off2, hv2, H2, hl2⟩
        repeat (first | refine S0 ?_ | refine S1 ?_ | refine S2 ?_ | refine S4 ?_ | refine S5 ?_ | refine S6 ?_ | refine S7 ?_ | refine S8 ?_ | refine S10 ?_ | refine S11 ?_ | refine S13 ?_ | refine S15 ?_ | refine S16 ?_ | refine S19 ?_ | refine S20 ?_ | refine S21 ?_ | refine S22 ?_ | refine S23 ?_ | refine S25 ?_ | refine S26 ?_ | refine S51 ?_)
        exact ⟨(k + 1, tk2, off2), by simp only; omega, SLx, ⟨by show GH _ _ _ _ (gCls n d (k + 1)) _; rw [e1, if_pos c2, if_pos c1]; exact H2, hv2, hl2⟩, by simp only; omega⟩
      · repeat (first | refine S0 ?_ | refine S1 ?_ | refine S2 ?_ | refine S4 ?_ | refine S5 ?_ | refine S6 ?_ | refine S7 ?_ | refine S8 ?_ | refine S10 ?_ | refine S11 ?_ | refine S13 ?_ | refine S15 ?_ | refine S16 ?_ | refine S19 ?_ | refine S20 ?_ | refine S21 ?_ | refine S22 ?_ | refine S23 ?_ | refine S25 ?_ | refine S26 ?_ | refine S51 ?_)
        exact ⟨(k + 1, _, _), by simp only; omega, SLx, ⟨by show GH _ _ _ _ (gCls n d (k + 1)) _; rw [e1, if_neg c2, if_pos c1]; exact H, hv, hl⟩, by simp only; omega⟩
    · by_cases c2 : k < n
      · have kl2 := line_e (n := 2 * n) (a := k) (b := n + k) (by omega) (by omega) (by omega) (by omega) (by have := hle k; omega) (by have := hle (n + k); omega) _ hv H ho hl
        rw [show ((n + k : Nat) : Int) = (n : Int) + (k : Int) from rfl] at kl2
        repeat (first | refine S0 ?_ | refine S1 ?_ | refine S2 ?_ | refine S4 ?_ | refine S5 ?_ | refine S6 ?_ | refine S7 ?_ | refine S8 ?_ | refine S10 ?_ | refine S11 ?_ | refine S13 ?_ | refine S15 ?_ | refine S16 ?_ | refine S19 ?_ | refine S20 ?_ | refine S21 ?_ | refine S22 ?_ | refine S23 ?_ | refine S25 ?_ | refine S26 ?_ | refine S51 ?_)
        refine Scalle (args := [.ptr tf 0, pint k, pint ((n : Int) + (k : Int))]) kl2 ?_
        rintro r h2 ⟨tk2, off2, hv2, H2, hl2⟩
        repeat (first | refine S0 ?_ | refine S1 ?_ | refine S2 ?_ | refine S4 ?_ | refine S5 ?_ | refine S6 ?_ | refine S7 ?_ | refine S8 ?_ | refine S10 ?_ | refine S11 ?_ | refine S13 ?_ | refine S15 ?_ | refine S16 ?_ | refine S19 ?_ | refine S20 ?_ | refine S21 ?_ | refine S22 ?_ | refine S23 ?_ | refine S25 ?_ | refine S26 ?_ | refine S51 ?_)
        exact ⟨(k + 1, tk2, off2), by simp only; omega, SLx, ⟨by show GH _ _ _ _ (gCls n d (k + 1)) _; rw [e1, if_pos c2, if_neg c1]; exact H2, hv2, hl2⟩, by simp only; omega⟩
      · repeat (first | refine S0 ?_ | refine S1 ?_ | refine S2 ?_ | refine S4 ?_ | refine S5 ?_ | refine S6 ?_ | refine S7 ?_ | refine S8 ?_ | refine S10 ?_ | refine S11 ?_ | refine S13 ?_ | refine S15 ?_ | refine S16 ?_ | refine S19 ?_ | refine S20 ?_ | refine S21 ?_ | refine S22 ?_ | refine S23 ?_ | refine S25 ?_ | refine S26 ?_ | refine S51 ?_)
        exact ⟨(k + 1, _, _), by simp only; omega, SLx, ⟨by show GH _ _ _ _ (gCls n d (k + 1)) _; rw [e1, if_neg c2, if_neg c1]; exact H, hv, hl⟩, by simp only; omega⟩
  · obtain rfl : k = 2 * n := by omega
    obtain ⟨hg, hlen⟩ := gCls_gr hd
    have hd2 : ∀ v, (gCls n d (2 * n) v).length ≤ 100 := fun v => by rw [hlen]; split <;> omega
    have kl := loops_e (by omega) hg hd2 hp hv H ho hl
    repeat (first | refine S0 ?_ | refine S1 ?_ | refine S2 ?_ | refine S4 ?_ | refine S5 ?_ | refine S6 ?_ | refine S7 ?_ | refine S8 ?_ | refine S10 ?_ | refine S11 ?_ | refine S13 ?_ | refine S15 ?_ | refine S16 ?_ | refine S19 ?_ | refine S20 ?_ | refine S21 ?_ | refine S22 ?_ | refine S23 ?_ | refine S25 ?_ | refine S26 ?_ | refine S51 ?_)
    refine Scalle (args := [.ptr tf 0]) kl ?_
    rintro r h' ⟨c', rfl, hL, F1⟩
    obtain rfl := hfix c' hL
    repeat (first | refine S0 ?_ | refine S1 ?_ | refine S2 ?_ | refine S4 ?_ | refine S5 ?_ | refine S6 ?_ | refine S7 ?_ | refine S8 ?_ | refine S10 ?_ | refine S11 ?_ | refine S13 ?_ | refine S15 ?_ | refine S16 ?_ | refine S19 ?_ | refine S20 ?_ | refine S21 ?_ | refine S22 ?_ | refine S23 ?_ | refine S25 ?_ | refine S26 ?_ | refine S51 ?_)
    exact ⟨.inr rfl, .cl rfl⟩
end Go.Proofs.Ytdlpbpfcgjgppaa

/- Facts and contracts that the claim uses. No condition of its own. -/
set_option linter.unusedVariables false
set_option linter.unusedSimpArgs false
namespace Go.Proofs.Ytdlpbpfcgjgppaa
open Go.RowKit
theorem pig_nat : ∀ (N : Nat) (l : List Nat), l.Nodup → (∀ x ∈ l, x < N) → l.length ≤ N
  | 0, l, _, h => by
    cases l with
    | nil => simp
    | cons a l => exact absurd (h a (by simp)) (by omega)
  | N + 1, l, hn, h => by
    have := pig_nat N (l.erase N) (hn.erase N) (fun x hx => by
      have h1 := h x (List.mem_of_mem_erase hx)
      have h2 : x ≠ N := fun e => by subst e; exact (hn.not_mem_erase) hx
      omega)
    have h2 := List.length_erase_le (a := N) (l := l)
    by_cases c : N ∈ l
    · rw [List.length_erase_of_mem c] at this; omega
    · rw [List.erase_of_not_mem c] at this; omega
def insD (Ds : List (List Int)) (D : List Int) : List (List Int) := if D ∈ Ds then Ds else Ds ++ [D]
theorem mem_insD {Ds : List (List Int)} {D E : List Int} : E ∈ insD Ds D ↔ E ∈ Ds ∨ E = D := by
  unfold insD
  split
  · rename_i h
    exact ⟨.inl, fun hh => hh.elim id (fun e => e ▸ h)⟩
  · simp
theorem insD_nd {Ds : List (List Int)} {D : List Int} (h : Ds.Nodup) : (insD Ds D).Nodup := by
  unfold insD
  split
  · exact h
  · rename_i hn
    exact List.nodup_append.2 ⟨h, by simp, fun a ha b hb e => by simp only [List.mem_singleton] at hb; subst hb; exact hn (e ▸ ha)⟩
section
variable {m : Nat} {Ds : List (List Int)} {D : List Int}
theorem pk_mem (hl : ∀ E ∈ Ds, E.length = m) (hD : D.length = m) : pk D ∈ Ds.map pk ↔ D ∈ Ds := by
  constructor
  · intro h
    obtain ⟨E, hE, e⟩ := List.mem_map.1 h
    rw [← pk_inj (by rw [hl E hE, hD]) e]; exact hE
  · intro h; exact List.mem_map.2 ⟨D, h, rfl⟩
theorem pk_idx : ∀ {Ds : List (List Int)}, (∀ E ∈ Ds, E.length = m) → D.length = m → (Ds.map pk).idxOf (pk D) = Ds.idxOf D
  | [], _, _ => rfl
  | E :: Ds, hl, hD => by
    rw [List.map_cons, List.idxOf_cons, List.idxOf_cons]
    have ih := pk_idx (Ds := Ds) (fun F hF => hl F (by simp [hF])) hD
    by_cases c : E = D
    · subst c; simp
    · have : pk E ≠ pk D := fun e => c (pk_inj (by rw [hl E (by simp), hD]) e)
      rw [beq_eq_false_iff_ne.2 this, beq_eq_false_iff_ne.2 c, ih]
theorem getP_map {g : List Int → PV} {z : PV} (hl : ∀ E ∈ Ds, E.length = m) (hD : D.length = m) : getP (Ds.map pk) (Ds.map g) (pk D) z = if D ∈ Ds then g D else z := by
  unfold getP
  by_cases c : D ∈ Ds
  · rw [if_pos c, if_pos ((pk_mem hl hD).2 c), pk_idx hl hD]
    have hi := List.idxOf_lt_length_iff.2 c
    simp only [List.getD, List.getElem?_map, List.getElem?_eq_getElem hi, Option.map_some, Option.getD_some]
    rw [List.getElem_idxOf]
  · rw [if_neg c, if_neg (fun h => c ((pk_mem hl hD).1 h))]
theorem insK_map (hl : ∀ E ∈ Ds, E.length = m) (hD : D.length = m) : insK (Ds.map pk) (pk D) = (insD Ds D).map pk := by
  unfold insK insD
  by_cases c : D ∈ Ds
  · rw [if_pos c, if_pos ((pk_mem hl hD).2 c)]
  · rw [if_neg c, if_neg (fun h => c ((pk_mem hl hD).1 h)), List.map_append]; rfl
theorem insP_map {g g' : List Int → PV} {v : PV} (hl : ∀ E ∈ Ds, E.length = m) (hD : D.length = m) (hn : Ds.Nodup) (h1 : g' D = v) (h2 : ∀ E, E ≠ D → g' E = g E) : insP (Ds.map pk) (Ds.map g) (pk D) v = (insD Ds D).map g' := by
  unfold insP insD
  by_cases c : D ∈ Ds
  · rw [if_pos c, if_pos ((pk_mem hl hD).2 c), pk_idx hl hD]
    have hi := List.idxOf_lt_length_iff.2 c
    apply List.ext_getElem (by simp)
    intro j g1 g2
    rw [List.getElem_set]
    have hj : j < Ds.length := by simpa using g2
    by_cases e : Ds.idxOf D = j
    · subst e
      rw [if_pos rfl, List.getElem_map, List.getElem_idxOf, h1]
    · rw [if_neg e, List.getElem_map, List.getElem_map, h2]
      intro e2
      apply e
      rw [← e2]
      exact hn.idxOf_getElem j hj
  · rw [if_neg c, if_neg (fun h => c ((pk_mem hl hD).1 h)), List.map_append]
    congr 1
    · exact List.map_congr_left fun E hE => (h2 E (fun e => c (e ▸ hE))).symm
    · rw [List.map_singleton, h1]
end
def Vd (n : Nat) (D : List Int) : Prop := Mt n (fnL D) ∧ D = tabN (2 * n) (fnL D)
theorem Vd.len {n : Nat} {D : List Int} (h : Vd n D) : D.length = 2 * n := by rw [h.2, tab_len]
theorem vd_tab {n : Nat} {o : Nat → Nat} (h : Mt n o) : Vd n (tabN (2 * n) o) :=
  ⟨h.congr fun i hi => fnL_tab hi, tab_ext fun i hi => by rw [fnL_tab hi]⟩
theorem putD_ok {n : Nat} {D : List Int} {b : Nat → Nat} (hD : Vd n D) (hb : Mt n b) : Vd n (putD n D b).1 ∧ (putD n D b).2 ≤ 3 * n := by
  obtain ⟨o, c, e, _, q2, q3⟩ := putD_spec hD.1 hb
  rw [e]
  refine ⟨vd_tab (mt_of_key q2), ?_⟩
  have : ∀ (P : Nat → Prop) K, sN (fun x => ind (P x)) K ≤ K := fun P K => by
    induction K with
    | zero => exact Nat.le_refl _
    | succ K ih =>
      have : ind (P K) ≤ 1 := by unfold ind; split <;> omega
      simp only [sN]; omega
  have := this (fun x => joinA id (prsP n (fnL D) b) x = x) (3 * n)
  show c ≤ 3 * n
  omega
theorem putD_s {n : Nat} {D : List Int} {b : Nat → Nat} (hn : 1 ≤ n ∧ n ≤ 6) (hD : Vd n D) (hb : Mt n b) : SC Try.prog 52 [pint n, pli D, pli (tabN (2 * n) b)] (.tup [pli (putD n D b).1, pint ((putD n D b).2 : Nat)]) := by
  obtain ⟨o, c, e, q1, _⟩ := putD_spec hD.1 hb
  rw [e]
  have := put_s (n := n) (by omega) hD.1 hb q1
  rwa [← hD.2] at this
noncomputable def clD (n : Nat) (D : List Int) : Nat := sN (fun x => ind (joinA id (prsC n (fnL D)) x = x)) (2 * n)
theorem clD_s {n : Nat} {D : List Int} (hn : 1 ≤ n ∧ n ≤ 6) (hD : Vd n D) : SC Try.prog 54 [pint n, pli D] (pint (clD n D : Nat)) := by
  have := close_s (n := n) (d := fnL D) (c := clD n D) (by omega) hD.1 (close_fix hD.1 rfl)
  rwa [← hD.2] at this
theorem clD_bd {n : Nat} (hn : 1 ≤ n) {D : List Int} (hD : Vd n D) : 1 ≤ clD n D ∧ clD n D ≤ 2 * n := by
  have hrr : ∀ x, x < 2 * n → joinA id (prsC n (fnL D)) x < 2 * n ∧ joinA id (prsC n (fnL D)) (joinA id (prsC n (fnL D)) x) = joinA id (prsC n (fnL D)) x := joinA_ok _ _ (fun x hx => ⟨hx, rfl⟩) (fun p hp => by
    obtain ⟨i, hi, hp⟩ := List.mem_flatMap.1 hp
    have hi := List.mem_range.1 hi
    have h1 := hD.1.lt i hi
    have h2 := (opp_mt n).lt i hi
    simp only [List.mem_cons, List.not_mem_nil, or_false] at hp
    rcases hp with rfl | rfl
    · exact ⟨hi, h1⟩
    · exact ⟨hi, h2⟩)
  unfold clD
  rw [← rts_len]
  have hm : joinA id (prsC n (fnL D)) 0 ∈ rts (joinA id (prsC n (fnL D))) (2 * n) := by
    have := hrr 0 (by omega)
    unfold rts
    exact List.mem_filter.2 ⟨List.mem_range.2 this.1, decide_eq_true this.2⟩
  refine ⟨List.length_pos_of_mem hm, ?_⟩
  unfold rts
  exact Nat.le_trans (List.length_filter_le _ _) (by simp)
theorem poW0 : poW 0 = (0, []) := cano_zero (fun _ => rfl)
theorem plus_zero {b : Po} {k : PV} {r : PV} (h : SC Try.prog 39 [ppo (0, []), ppo b, k] r) : SC Try.prog 39 [.agg [pint 0, .lst true 0 0 []], ppo b, k] r :=
  SC.wk h rfl (fun i hi => by
    match i, hi with
    | 0, _ => exact .agg rfl (fun i hi => by
        match i, hi with
        | 0, _ => exact .refl _
        | 1, _ => exact .nil _ _ _
        | i + 2, h => simp at h; omega)
    | 1, _ => exact .refl _
    | 2, _ => exact .refl _
    | i + 3, h => simp at h; omega)
/-! ### supports -/
def supS (B : Nat) (L : List StE) : Prop := ∀ e ∈ L, Sup (B : Int) e.2
theorem col_sup {B : Nat} (D : List Int) : ∀ {L : List StE}, supS B L → Sup (B : Int) (col L D)
  | [], _ => Sup.zero
  | e :: L, h => by
    have ih := col_sup D (L := L) fun e he => h e (by simp [he])
    refine Sup.add ?_ ih
    show Sup _ (e.2 * if e.1 = D then 1 else 0)
    split
    · rw [LP.mul_one]; exact h e (by simp)
    · rw [LP.mul_zero]; exact Sup.zero
theorem chW_cases (x : Int) (b : Bool) : chW x b = 1 ∨ chW x b = -1 := by unfold chW; split <;> simp
theorem wt_sup (x : Int) (b : Bool) (c : Nat) : Sup ((1 + 2 * c : Nat) : Int) (LP.mono 1 (chW x b) * dpow c) :=
  Sup.mul (B := 1) (Sup.monom _ _ (by rcases chW_cases x b with h | h <;> rw [h] <;> omega)) (dpow_sup c)
theorem nx_sup {n : Nat} (hn : n ≤ 6) {x : Int} (hx : x.natAbs ≠ 0 ∧ x.natAbs < n) {B : Nat} {e : StE} (hD : Vd n e.1) (h : Sup (B : Int) e.2) (b : Bool) : Sup ((B + 37 : Nat) : Int) (chS n x e b).2 := by
  have hp := (putD_ok hD (chM_mt hx b)).2
  refine (Sup.mul h (wt_sup x b _)).mono ?_
  omega
end Go.Proofs.Ytdlpbpfcgjgppaa
