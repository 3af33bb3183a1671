/- permgroup.orbits, Orbits, StabilizerOrder. No condition of its own. -/
import Derived.Test.YthacglggkgmbhaaGGroupOrbitsBT
import Derived.Test.YthacglggkgmbhaaGGroupOrbitsBU
import Derived.Test.YthacglggkgmbhaaGGroupOrbitsBV
set_option linter.unusedVariables false
set_option linter.unusedSimpArgs false
namespace Go.Proofs.Ythacglggkgmbhaa
open Go.RowKit

theorem Fz.refK {h : HP} {t sz n : Nat} {cs : List PV} (hb : h.blk t = some cs) (hn : cs.length = n * sz) (hc : PV.cl.clL cs = true) : Fz h (.ref t 0 sz n) (.lst false sz n cs) :=
  .ref hb (by omega) hn (fun i hi => by
    rw [Nat.zero_add]
    refine .cl ?_
    rw [getD_lt PV.junk (show i < cs.length by omega)]
    exact clL_mem.1 hc _ (List.getElem_mem (by omega)))
def orK (r : Nat → Nat) (n k : Nat) : List (List Int) := (fstK r k).map (clsK r n)
theorem orK_len (r : Nat → Nat) (n k : Nat) : (orK r n k).length = (fstK r k).length := by simp [orK]
theorem orK_le (r : Nat → Nat) (n k : Nat) : (orK r n k).length ≤ k := by rw [orK_len]; exact Nat.le_trans (List.length_filter_le _ _) (by simp)
theorem orK_row {r : Nat → Nat} {n k : Nat} : ∀ l ∈ orK r n k, l.length ≤ n := fun l hl => by
  obtain ⟨i, _, rfl⟩ := List.mem_map.1 hl
  unfold clsK
  rw [List.length_map]
  exact Nat.le_trans (List.length_filter_le _ _) (by simp)
theorem or_has {r : Nat → Nat} {n k : Nat} (hk : k < n) : (∃ l ∈ orK r n k, (k : Int) ∈ l) ↔ ∃ j, j < k ∧ r j = r k := by
  constructor
  · rintro ⟨l, hl, hm⟩
    obtain ⟨i, hi, rfl⟩ := List.mem_map.1 hl
    obtain ⟨z, h1, h2, h3⟩ := mem_clsK.1 hm
    obtain rfl : k = z := by omega
    exact ⟨i, (mem_fstK.1 hi).1, h3.symm⟩
  · rintro ⟨j, hj, e⟩
    obtain ⟨i, h1, h2, _⟩ := fstK_ex r hj
    exact ⟨_, List.mem_map.2 ⟨i, h1, rfl⟩, mem_clsK.2 ⟨k, rfl, hk, by rw [h2, e]⟩⟩
theorem or_old {r : Nat → Nat} {n k : Nat} (h : ∃ j, j < k ∧ r j = r k) : orK r n (k + 1) = orK r n k := by
  unfold orK
  rw [fstK_succ, if_neg, List.append_nil]
  intro hc
  obtain ⟨j, h1, h2⟩ := h
  rw [List.all_eq_true] at hc
  have := hc j (List.mem_range.2 h1)
  simp [h2] at this
theorem or_new {r : Nat → Nat} {n k : Nat} (h : ¬ ∃ j, j < k ∧ r j = r k) : orK r n (k + 1) = orK r n k ++ [clsK r n k] := by
  unfold orK
  rw [fstK_succ, if_pos, List.map_append]
  · rfl
  · rw [List.all_eq_true]
    intro j hj
    exact decide_eq_true fun e => h ⟨j, List.mem_range.1 hj, e⟩
/-- the list of an orbit as it grows -/
structure Obt (n : Nat) (gs : List Fn) (k q : Nat) (xs : List Nat) : Prop where
  hd : k ∈ xs
  nd : xs.Nodup
  lt : ∀ x ∈ xs, x < n ∧ namG n gs x = namG n gs k
  cl : ∀ a, a < q → ∀ g ∈ gs, g (xs.getD a 0) ∈ xs
theorem Obt.len {n : Nat} {gs : List Fn} {k q : Nat} {xs : List Nat} (h : Obt n gs k q xs) : xs.length ≤ n := by
  exact nat_pigeon n xs h.nd fun x hx => (h.lt x hx).1
theorem Obt.start {n : Nat} {gs : List Fn} {k : Nat} (hk : k < n) : Obt n gs k 0 [k] := ⟨by simp, by simp, fun x hx => by simp only [List.mem_singleton] at hx; subst hx; exact ⟨hk, rfl⟩, fun a ha => by omega⟩
/-- the same with the first b generators at the place q -/
structure Obw (n : Nat) (gs : List Fn) (k q b : Nat) (xs : List Nat) : Prop where
  ob : Obt n gs k q xs
  hq : q < xs.length
  pt : ∀ a, a < b → (gs.getD a id) (xs.getD q 0) ∈ xs
theorem Obw.end {n : Nat} {gs : List Fn} {k q : Nat} {xs : List Nat} (h : Obw n gs k q gs.length xs) : Obt n gs k (q + 1) xs := ⟨h.ob.hd, h.ob.nd, h.ob.lt, fun a ha g hg => by
  by_cases e : a = q
  · subst e
    obtain ⟨c, hc, rfl⟩ := List.getElem_of_mem hg
    have := h.pt c hc
    rwa [getD_lt id hc] at this
  · exact h.ob.cl a (by omega) g hg⟩
theorem getD_app {xs : List Nat} {a y : Nat} (h : a < xs.length) : (xs ++ [y]).getD a 0 = xs.getD a 0 := by
  simp only [List.getD]
  rw [List.getElem?_append_left h]
theorem Obw.add {n : Nat} {gs : List Fn} (hg : ∀ g ∈ gs, Pe n g) {k q b : Nat} {xs : List Nat} (h : Obw n gs k q b xs) (hb : b < gs.length) (hnew : (gs.getD b id) (xs.getD q 0) ∉ xs) : Obw n gs k q (b + 1) (xs ++ [(gs.getD b id) (xs.getD q 0)]) := by
  have hx := h.ob.lt _ (mem_getD h.hq 0)
  have hgm := mem_getD hb id
  have hq := h.hq
  refine ⟨⟨List.mem_append_left _ h.ob.hd, ?_, fun x hx' => ?_, fun a ha g hg' => ?_⟩, by simp; omega, fun a ha => ?_⟩
  · rw [List.nodup_append]
    exact ⟨h.ob.nd, by simp, fun a ha c hc e => by simp only [List.mem_singleton] at hc; subst hc; exact hnew (e ▸ ha)⟩
  · rcases List.mem_append.1 hx' with hx' | hx'
    · exact h.ob.lt x hx'
    · simp only [List.mem_singleton] at hx'
      subst hx'
      exact ⟨(hg _ hgm).lt _ hx.1, by rw [namG_gen hgm hx.1]; exact hx.2⟩
  · rw [getD_app (by omega)]
    exact List.mem_append_left _ (h.ob.cl a ha g hg')
  · rw [getD_app h.hq]
    by_cases e : a = b
    · subst e; simp
    · exact List.mem_append_left _ (h.pt a (by omega))
theorem Obw.has {n : Nat} {gs : List Fn} {k q b : Nat} {xs : List Nat} (h : Obw n gs k q b xs) (hin : (gs.getD b id) (xs.getD q 0) ∈ xs) : Obw n gs k q (b + 1) xs := ⟨h.ob, h.hq, fun a ha => by
  by_cases e : a = b
  · subst e; exact hin
  · exact h.pt a (by omega)⟩
def nats (xs : List Nat) : List Int := xs.map fun (i : Nat) => (i : Int)
@[simp] theorem nats_len (xs : List Nat) : (nats xs).length = xs.length := by simp [nats]
theorem nats_get {xs : List Nat} {a : Nat} (h : a < xs.length) : (nats xs).getD a 0 = ((xs.getD a 0 : Nat) : Int) := by simp [nats, List.getD, h]
theorem nats_mem {xs : List Nat} {x : Nat} : (x : Int) ∈ nats xs ↔ x ∈ xs := by
  simp only [nats, List.mem_map]
  exact ⟨fun ⟨a, h1, h2⟩ => by obtain rfl : a = x := by omega
                               exact h1, fun h => ⟨x, h, rfl⟩⟩
theorem nats_app (xs : List Nat) (y : Nat) : nats (xs ++ [y]) = nats xs ++ [(y : Int)] := by simp [nats]
theorem Obt.cls {n : Nat} (hn : n ≤ 9) {gs : List Fn} (hg : ∀ g ∈ gs, Pe n g) {k : Nat} {xs : List Nat} (h : Obt n gs k xs.length xs) {zs : List Int} (hp : zs.Perm (nats xs)) (hs : zs.Pairwise (· ≤ ·)) : zs = clsK (namG n gs) n k := by
  have hnd : zs.Nodup := hp.nodup_iff.2 (List.pairwise_map.2 (List.Pairwise.imp (fun hab e => hab (by omega)) h.nd))
  refine sorted_ext (List.Pairwise.imp_of_mem (fun {a b} _ _ hab => ?_) (List.Pairwise.and hs hnd)) (clsK_sorted _ _ _) (fun x => ?_)
  · have := hab.1; have := hab.2; omega
  · rw [hp.mem_iff, mem_clsK]
    constructor
    · intro hx
      obtain ⟨z, hz, rfl⟩ := List.mem_map.1 hx
      exact ⟨z, rfl, (h.lt z hz).1, (h.lt z hz).2⟩
    · rintro ⟨z, rfl, h1, h2⟩
      refine nats_mem.2 (orb_all hn hg h.hd (fun x hx g hg' => ?_) h2)
      obtain ⟨a, ha, rfl⟩ := List.getElem_of_mem hx
      have := h.cl a ha g hg'
      rwa [getD_lt 0 ha] at this
set_option maxHeartbeats 8000000 in
set_option maxRecDepth 100000 in
theorem orbits_s {n : Nat} (hn : n ≤ 9) {c : Bool} {gs : List Fn} (hg : ∀ g ∈ gs, Pe n g) (hl : gs.length ≤ 6) : SC Try.prog 37 [pint n, .lst c 1 gs.length (gL n gs)] (.lst false 1 (orK (namG n gs) n n).length ((orK (namG n gs) n n).map (LF true))) := by
  refine SC.go { mt := [21], rb := [57], pc := [59] } tok mixed Try.func37 rfl rfl Try.ntmps37 rfl rfl (by kernel_rfl) ?_
  first | simp only [updS] | simp only [updL, Nat.reduceAdd]
  repeat (first | refine S0 ?_ | refine S1 ?_ | refine S2 ?_ | refine S3 ?_ | refine S4 ?_ | refine S5 ?_ | refine S6 ?_ | refine S7 ?_ | refine S8 ?_ | refine S9 ?_ | refine S10 ?_ | refine S11 ?_ | refine S13 ?_ | refine S15 ?_ | refine S16 ?_ | refine S19 ?_ | refine S20 ?_ | refine S21 ?_ | refine S22 ?_ | refine S23 ?_ | refine S24 ?_ | refine S25 ?_ | refine S26 ?_ | refine S27 ?_ | refine S29 ?_ | refine S32 ?_ | refine S34 ?_ | refine S36 ?_ | refine S37 ?_ | refine S38 ?_ | refine S40 ?_ | refine S41 ?_ | refine S46 ?_ | refine S49 ?_ | refine S50 ?_ | refine S52 ?_ | refine S56 ?_ | refine S63 ?_ | refine S65 ?_ | refine S68 ?_ | refine S73 ?_)
  refine CW.ownC 1 0 1 (cs := [.lst true 0 0 []]) rfl rfl (by decide) ?_
  obtain ⟨r, hr⟩ : ∃ r, r = namG n gs := ⟨_, rfl⟩
  rw [← hr]
  refine CW.loopS (fun i : Nat × Nat => i.1 ≤ n ∧ i.2 % 2 = 0) (fun i => [(0, pint n), (1, .lst c 1 gs.length (gL n gs)), (5, .ptr 1 0), (6, .clo 50 [.ptr 1 0]), (13, pint n), (14, pint i.1)])
    (fun i hp => hp.blk 1 = some [.ref i.2 0 1 (orK r n i.1).length] ∧ hp.blk i.2 = some ((orK r n i.1).map (LF true)) ∧ 1 ≤ hp.next ∧ i.2 < 2 * hp.next) (fun i => n - i.1) (0, 2) ⟨⟨Nat.zero_le _, rfl⟩, SLx, HBx, HBx, (by first | omega | (simp only [HP.tokF, HP.tokT, HP.next_add, HP.next_set, HP.next_kill, HP.next_H0, HP.next_addS, HP.next_setS, HP.next_killS, HP.next_put, HP.next_bump, HP.next_putS]; omega)), (by first | omega | (simp only [HP.tokF, HP.tokT, HP.next_add, HP.next_set, HP.next_kill, HP.next_H0, HP.next_addS, HP.next_setS, HP.next_killS, HP.next_put, HP.next_bump, HP.next_putS]; omega))⟩ ?_
  rintro ⟨k, T⟩ t h ⟨hk, hT2⟩ ⟨hB1, hBT, hnx, hTl⟩
  simp only at hk hT2 hB1 hBT hTl
  first | simp only [updS] | simp only [updL, Nat.reduceAdd]
  have hle := orK_le r n k
  have hrow := orK_row (r := r) (n := n) (k := k)
  by_cases hk2 : k < n
  · have hcl := orbits1_e (c := true) (x := (k : Int)) (v := 1) (T := T) (m := (orK r n k).length) (ms := orK r n k) (by omega) (fun l hl => by have := hrow l hl; omega) (h := h) rfl hB1 hBT
    repeat (first | refine S0 ?_ | refine S1 ?_ | refine S2 ?_ | refine S3 ?_ | refine S4 ?_ | refine S5 ?_ | refine S6 ?_ | refine S7 ?_ | refine S8 ?_ | refine S9 ?_ | refine S10 ?_ | refine S11 ?_ | refine S13 ?_ | refine S15 ?_ | refine S16 ?_ | refine S19 ?_ | refine S20 ?_ | refine S21 ?_ | refine S22 ?_ | refine S23 ?_ | refine S24 ?_ | refine S25 ?_ | refine S26 ?_ | refine S27 ?_ | refine S29 ?_ | refine S32 ?_ | refine S34 ?_ | refine S36 ?_ | refine S37 ?_ | refine S38 ?_ | refine S40 ?_ | refine S41 ?_ | refine S46 ?_ | refine S49 ?_ | refine S50 ?_ | refine S52 ?_ | refine S56 ?_ | refine S63 ?_ | refine S65 ?_ | refine S68 ?_ | refine S73 ?_)
    refine AW.callve (f := 50) (cap := [.ptr 1 0]) (args := [pint k, .ptr 1 0]) rfl rfl rfl hcl ?_
    rintro r' h1 ⟨rfl, hF1⟩
    have hB1' : h1.blk 1 = some [.ref T 0 1 (orK r n k).length] := by rw [hF1.blk 1 (by omega) (by simp)]; exact hB1
    have hBT' : h1.blk T = some ((orK r n k).map (LF true)) := by rw [hF1.blk T hTl (by simp)]; exact hBT
    have hnx' := hF1.next
    by_cases hin : ∃ j, j < k ∧ r j = r k
    · rw [decide_eq_true ((or_has (n := n) hk2).2 hin)]
      have e := or_old (n := n) hin
      repeat (first | refine S0 ?_ | refine S1 ?_ | refine S2 ?_ | refine S3 ?_ | refine S4 ?_ | refine S5 ?_ | refine S6 ?_ | refine S7 ?_ | refine S8 ?_ | refine S9 ?_ | refine S10 ?_ | refine S11 ?_ | refine S13 ?_ | refine S15 ?_ | refine S16 ?_ | refine S19 ?_ | refine S20 ?_ | refine S21 ?_ | refine S22 ?_ | refine S23 ?_ | refine S24 ?_ | refine S25 ?_ | refine S26 ?_ | refine S27 ?_ | refine S29 ?_ | refine S32 ?_ | refine S34 ?_ | refine S36 ?_ | refine S37 ?_ | refine S38 ?_ | refine S40 ?_ | refine S41 ?_ | refine S46 ?_ | refine S49 ?_ | refine S50 ?_ | refine S52 ?_ | refine S56 ?_ | refine S63 ?_ | refine S65 ?_ | refine S68 ?_ | refine S73 ?_)
      exact ⟨(k + 1, T), ⟨by simp only; omega, hT2⟩, by simp only; exact SLx, by simp only; rw [e]; exact ⟨hB1', hBT', (by first | omega | (simp only [HP.tokF, HP.tokT, HP.next_add, HP.next_set, HP.next_kill, HP.next_H0, HP.next_addS, HP.next_setS, HP.next_killS, HP.next_put, HP.next_bump, HP.next_putS]; omega)), (by first | omega | (simp only [HP.tokF, HP.tokT, HP.next_add, HP.next_set, HP.next_kill, HP.next_H0, HP.next_addS, HP.next_setS, HP.next_killS, HP.next_put, HP.next_bump, HP.next_putS]; omega))⟩, by simp only; omega⟩
    · rw [decide_eq_false (fun hc => hin ((or_has (n := n) hk2).1 hc))]
      have e := or_new (n := n) hin
      clear hcl hF1 hB1 hBT
      repeat (first | refine S0 ?_ | refine S1 ?_ | refine S2 ?_ | refine S3 ?_ | refine S4 ?_ | refine S5 ?_ | refine S6 ?_ | refine S7 ?_ | refine S8 ?_ | refine S9 ?_ | refine S10 ?_ | refine S11 ?_ | refine S13 ?_ | refine S15 ?_ | refine S16 ?_ | refine S19 ?_ | refine S20 ?_ | refine S21 ?_ | refine S22 ?_ | refine S23 ?_ | refine S24 ?_ | refine S25 ?_ | refine S26 ?_ | refine S27 ?_ | refine S29 ?_ | refine S32 ?_ | refine S34 ?_ | refine S36 ?_ | refine S37 ?_ | refine S38 ?_ | refine S40 ?_ | refine S41 ?_ | refine S46 ?_ | refine S49 ?_ | refine S50 ?_ | refine S52 ?_ | refine S56 ?_ | refine S63 ?_ | refine S65 ?_ | refine S68 ?_ | refine S73 ?_)
      have hO0 : ints (nats [k]) = [pint k] := rfl
      refine CW.loopS (fun i : Nat × List Nat × Nat => i.1 ≤ i.2.1.length ∧ Obt n gs k i.1 i.2.1 ∧ i.2.2 % 2 = 0 ∧ i.2.2 ≠ T) (fun i => [(0, pint n), (1, .lst c 1 gs.length (gL n gs)), (5, .ptr 1 0), (6, .clo 50 [.ptr 1 0]), (8, .ref i.2.2 0 1 i.2.1.length), (9, pint i.1), (13, pint n), (14, pint k)])
        (fun i hp => hp.blk 1 = some [.ref T 0 1 (orK r n k).length] ∧ hp.blk T = some ((orK r n k).map (LF true)) ∧ hp.blk i.2.2 = some (ints (nats i.2.1)) ∧ 1 ≤ hp.next ∧ T < 2 * hp.next ∧ i.2.2 < 2 * hp.next) (fun i => n + 1 - i.1) (0, [k], 2 * h1.next) ⟨⟨by simp, Obt.start hk2, by simp only; omega, by simp only; omega⟩, SLx, HBx, HBx, HBx, (by first | omega | (simp only [HP.tokF, HP.tokT, HP.next_add, HP.next_set, HP.next_kill, HP.next_H0, HP.next_addS, HP.next_setS, HP.next_killS, HP.next_put, HP.next_bump, HP.next_putS]; omega)), (by first | omega | (simp only [HP.tokF, HP.tokT, HP.next_add, HP.next_set, HP.next_kill, HP.next_H0, HP.next_addS, HP.next_setS, HP.next_killS, HP.next_put, HP.next_bump, HP.next_putS]; omega)), (by first | omega | (simp only [HP.tokF, HP.tokT, HP.next_add, HP.next_set, HP.next_kill, HP.next_H0, HP.next_addS, HP.next_setS, HP.next_killS, HP.next_put, HP.next_bump, HP.next_putS]; omega))⟩ ?_
      clear hB1' hBT' hnx' hnx hTl
      clear h h1 t
      rintro ⟨q, xs, To⟩ t h ⟨hq, hob, hTo2, hToT⟩ ⟨hB1, hBT, hBo, hnx, hTl, hTol⟩
      simp only at hq hob hTo2 hToT hB1 hBT hBo hTol
      first | simp only [updS] | simp only [updL, Nat.reduceAdd]
      have hxn := hob.len
      by_cases hq2 : q < xs.length
      · repeat (first | refine S0 ?_ | refine S1 ?_ | refine S2 ?_ | refine S3 ?_ | refine S4 ?_ | refine S5 ?_ | refine S6 ?_ | refine S7 ?_ | refine S8 ?_ | refine S9 ?_ | refine S10 ?_ | refine S11 ?_ | refine S13 ?_ | refine S15 ?_ | refine S16 ?_ | refine S19 ?_ | refine S20 ?_ | refine S21 ?_ | refine S22 ?_ | refine S23 ?_ | refine S24 ?_ | refine S25 ?_ | refine S26 ?_ | refine S27 ?_ | refine S29 ?_ | refine S32 ?_ | refine S34 ?_ | refine S36 ?_ | refine S37 ?_ | refine S38 ?_ | refine S40 ?_ | refine S41 ?_ | refine S46 ?_ | refine S49 ?_ | refine S50 ?_ | refine S52 ?_ | refine S56 ?_ | refine S63 ?_ | refine S65 ?_ | refine S68 ?_ | refine S73 ?_)
        refine CW.loopS (fun i : Nat × List Nat × Nat => i.1 ≤ gs.length ∧ Obw n gs k q i.1 i.2.1 ∧ i.2.2 % 2 = 0 ∧ i.2.2 ≠ T) (fun i => [(0, pint n), (1, .lst c 1 gs.length (gL n gs)), (5, .ptr 1 0), (6, .clo 50 [.ptr 1 0]), (8, .ref i.2.2 0 1 i.2.1.length), (9, pint q), (13, pint n), (14, pint k), (28, .lst c 1 gs.length (gL n gs)), (29, pint gs.length), (30, pint i.1)])
          (fun i hp => hp.blk 1 = some [.ref T 0 1 (orK r n k).length] ∧ hp.blk T = some ((orK r n k).map (LF true)) ∧ hp.blk i.2.2 = some (ints (nats i.2.1)) ∧ 1 ≤ hp.next ∧ T < 2 * hp.next ∧ i.2.2 < 2 * hp.next) (fun i => gs.length - i.1) (0, xs, To) ⟨⟨Nat.zero_le _, ⟨hob, hq2, fun a ha => by omega⟩, hTo2, hToT⟩, SLx, hB1, hBT, hBo, hnx, hTl, hTol⟩ ?_
        clear hB1 hBT hBo hnx hTl hTol hTo2 hToT hxn hob hq2 hq
        clear h t To xs
        rintro ⟨b, xs, To⟩ t h ⟨hb, hob, hTo2, hToT⟩ ⟨hB1, hBT, hBo, hnx, hTl, hTol⟩
        simp only at hb hob hTo2 hToT hB1 hBT hBo hTol
        first | simp only [updS] | simp only [updL, Nat.reduceAdd]
        have hxn := hob.ob.len
        have hqx := hob.hq
        have hxq := hob.ob.lt _ (mem_getD hqx 0)
        by_cases hb2 : b < gs.length
        · have hgm := mem_getD hb2 id
          have hgi := tabN_get (F := gs.getD b id) hxq.1
          have hng := nats_get hqx
          have hcx := contains_x (xs := nats xs) (x := (((gs.getD b id) (xs.getD q 0) : Nat) : Int)) (by rw [nats_len]; omega)
          have hnl := nats_len xs
          generalize hx : xs.getD q 0 = x at *
          generalize hgb : gs.getD b id = g at *
          have hgl := tab_len n g
          have hga : ((gL n gs).drop ((b : Int).toNat * 1))[0]? = some (pli (tabN n g)) := by rw [← hgb]; exact gL_at hb2
          repeat (first | refine S0 ?_ | refine S1 ?_ | refine S2 ?_ | refine S3 ?_ | refine S4 ?_ | refine S5 ?_ | refine S6 ?_ | refine S7 ?_ | refine S8 ?_ | refine S9 ?_ | refine S10 ?_ | refine S11 ?_ | refine S13 ?_ | refine S15 ?_ | refine S16 ?_ | refine S19 ?_ | refine S20 ?_ | refine S21 ?_ | refine S22 ?_ | refine S23 ?_ | refine S24 ?_ | refine S25 ?_ | refine S26 ?_ | refine S27 ?_ | refine S29 ?_ | refine S32 ?_ | refine S34 ?_ | refine S36 ?_ | refine S37 ?_ | refine S38 ?_ | refine S40 ?_ | refine S41 ?_ | refine S46 ?_ | refine S49 ?_ | refine S50 ?_ | refine S52 ?_ | refine S56 ?_ | refine S63 ?_ | refine S65 ?_ | refine S68 ?_ | refine S73 ?_)
          refine AW.ldl EVx rfl (p := pli (tabN n g)) hga ?_
          repeat (first | refine S0 ?_ | refine S1 ?_ | refine S2 ?_ | refine S3 ?_ | refine S4 ?_ | refine S5 ?_ | refine S6 ?_ | refine S7 ?_ | refine S8 ?_ | refine S9 ?_ | refine S10 ?_ | refine S11 ?_ | refine S13 ?_ | refine S15 ?_ | refine S16 ?_ | refine S19 ?_ | refine S20 ?_ | refine S21 ?_ | refine S22 ?_ | refine S23 ?_ | refine S24 ?_ | refine S25 ?_ | refine S26 ?_ | refine S27 ?_ | refine S29 ?_ | refine S32 ?_ | refine S34 ?_ | refine S36 ?_ | refine S37 ?_ | refine S38 ?_ | refine S40 ?_ | refine S41 ?_ | refine S46 ?_ | refine S49 ?_ | refine S50 ?_ | refine S52 ?_ | refine S56 ?_ | refine S63 ?_ | refine S65 ?_ | refine S68 ?_ | refine S73 ?_)
          rw [show (tabN n g).getD ((nats xs).getD q 0).toNat 0 = ((g x : Nat) : Int) by rw [hng, Int.toNat_natCast, hgi]]
          refine Scallb (args := [pli (nats xs), pint (g x)]) hcx ?_ (ha := by simp only [evA, upd, Nat.reduceEqDiff, ↓reduceIte, List.map_cons, List.map_nil]; rw [← hnl, bwI hBo]; rfl)
          by_cases hin : g x ∈ xs
          · rw [decide_eq_true (nats_mem.2 hin)]
            repeat (first | refine S0 ?_ | refine S1 ?_ | refine S2 ?_ | refine S3 ?_ | refine S4 ?_ | refine S5 ?_ | refine S6 ?_ | refine S7 ?_ | refine S8 ?_ | refine S9 ?_ | refine S10 ?_ | refine S11 ?_ | refine S13 ?_ | refine S15 ?_ | refine S16 ?_ | refine S19 ?_ | refine S20 ?_ | refine S21 ?_ | refine S22 ?_ | refine S23 ?_ | refine S24 ?_ | refine S25 ?_ | refine S26 ?_ | refine S27 ?_ | refine S29 ?_ | refine S32 ?_ | refine S34 ?_ | refine S36 ?_ | refine S37 ?_ | refine S38 ?_ | refine S40 ?_ | refine S41 ?_ | refine S46 ?_ | refine S49 ?_ | refine S50 ?_ | refine S52 ?_ | refine S56 ?_ | refine S63 ?_ | refine S65 ?_ | refine S68 ?_ | refine S73 ?_)
            exact ⟨(b + 1, xs, To), ⟨by simp only; omega, hob.has (by rw [hx, hgb]; exact hin), hTo2, hToT⟩, SLx, ⟨hB1, hBT, hBo, hnx, hTl, hTol⟩, by simp only; omega⟩
          · rw [decide_eq_false (fun hc => hin (nats_mem.1 hc))]
            repeat (first | refine S0 ?_ | refine S1 ?_ | refine S2 ?_ | refine S3 ?_ | refine S4 ?_ | refine S5 ?_ | refine S6 ?_ | refine S7 ?_ | refine S8 ?_ | refine S9 ?_ | refine S10 ?_ | refine S11 ?_ | refine S13 ?_ | refine S15 ?_ | refine S16 ?_ | refine S19 ?_ | refine S20 ?_ | refine S21 ?_ | refine S22 ?_ | refine S23 ?_ | refine S24 ?_ | refine S25 ?_ | refine S26 ?_ | refine S27 ?_ | refine S29 ?_ | refine S32 ?_ | refine S34 ?_ | refine S36 ?_ | refine S37 ?_ | refine S38 ?_ | refine S40 ?_ | refine S41 ?_ | refine S46 ?_ | refine S49 ?_ | refine S50 ?_ | refine S52 ?_ | refine S56 ?_ | refine S63 ?_ | refine S65 ?_ | refine S68 ?_ | refine S73 ?_)
            rw [show (tabN n g).getD ((nats xs).getD q 0).toNat 0 = ((g x : Nat) : Int) by rw [hng, Int.toNat_natCast, hgi]]
            have el : (xs ++ [g x]).length = xs.length + 1 := by simp
            refine ⟨(b + 1, xs ++ [g x], 2 * h.next), ⟨by simp only; omega, ?_, by simp only; omega, by simp only; omega⟩, ?_, ⟨?_, ?_, ?_, (by first | omega | (simp only [HP.tokF, HP.tokT, HP.next_add, HP.next_set, HP.next_kill, HP.next_H0, HP.next_addS, HP.next_setS, HP.next_killS, HP.next_put, HP.next_bump, HP.next_putS]; omega)), (by first | omega | (simp only [HP.tokF, HP.tokT, HP.next_add, HP.next_set, HP.next_kill, HP.next_H0, HP.next_addS, HP.next_setS, HP.next_killS, HP.next_put, HP.next_bump, HP.next_putS]; omega)), (by first | omega | (simp only [HP.tokF, HP.tokT, HP.next_add, HP.next_set, HP.next_kill, HP.next_H0, HP.next_addS, HP.next_setS, HP.next_killS, HP.next_put, HP.next_bump, HP.next_putS]; omega))⟩, by simp only; omega⟩
            · have := hob.add hg hb2 (by rw [hx, hgb]; exact hin)
              rw [hx, hgb] at this
              exact this
            · simp only; rw [el]; exact SLx
            · exact HBx
            · exact HBx
            · simp only; rw [nats_app]; exact HBx
        · obtain rfl : b = gs.length := by omega
          repeat (first | refine S0 ?_ | refine S1 ?_ | refine S2 ?_ | refine S3 ?_ | refine S4 ?_ | refine S5 ?_ | refine S6 ?_ | refine S7 ?_ | refine S8 ?_ | refine S9 ?_ | refine S10 ?_ | refine S11 ?_ | refine S13 ?_ | refine S15 ?_ | refine S16 ?_ | refine S19 ?_ | refine S20 ?_ | refine S21 ?_ | refine S22 ?_ | refine S23 ?_ | refine S24 ?_ | refine S25 ?_ | refine S26 ?_ | refine S27 ?_ | refine S29 ?_ | refine S32 ?_ | refine S34 ?_ | refine S36 ?_ | refine S37 ?_ | refine S38 ?_ | refine S40 ?_ | refine S41 ?_ | refine S46 ?_ | refine S49 ?_ | refine S50 ?_ | refine S52 ?_ | refine S56 ?_ | refine S63 ?_ | refine S65 ?_ | refine S68 ?_ | refine S73 ?_)
          exact ⟨(q + 1, xs, To), ⟨by simp only; omega, hob.end, hTo2, hToT⟩, SLx, ⟨hB1, hBT, hBo, hnx, hTl, hTol⟩, by simp only; omega⟩
      · obtain rfl : q = xs.length := by omega
        repeat (first | refine S0 ?_ | refine S1 ?_ | refine S2 ?_ | refine S3 ?_ | refine S4 ?_ | refine S5 ?_ | refine S6 ?_ | refine S7 ?_ | refine S8 ?_ | refine S9 ?_ | refine S10 ?_ | refine S11 ?_ | refine S13 ?_ | refine S15 ?_ | refine S16 ?_ | refine S19 ?_ | refine S20 ?_ | refine S21 ?_ | refine S22 ?_ | refine S23 ?_ | refine S24 ?_ | refine S25 ?_ | refine S26 ?_ | refine S27 ?_ | refine S29 ?_ | refine S32 ?_ | refine S34 ?_ | refine S36 ?_ | refine S37 ?_ | refine S38 ?_ | refine S40 ?_ | refine S41 ?_ | refine S46 ?_ | refine S49 ?_ | refine S50 ?_ | refine S52 ?_ | refine S56 ?_ | refine S63 ?_ | refine S65 ?_ | refine S68 ?_ | refine S73 ?_)
        have ks := sort_e (xs := nats xs) (by rw [nats_len]; omega) hBo
        rw [nats_len] at ks
        refine Scalle (args := [.ref To 0 1 xs.length]) ks ?_
        rintro _ h2 ⟨zs, z1, z2, z3, hF⟩
        have e2 := hob.cls hn hg z1 z2
        rw [← hr] at e2
        subst e2
        have hB1' : h2.blk 1 = some [.ref T 0 1 (orK r n k).length] := by rw [hF.blk 1 (by omega) (by simp; omega)]; exact hB1
        have hBT' : h2.blk T = some ((orK r n k).map (LF true)) := by rw [hF.blk T hTl (by simp; omega)]; exact hBT
        have hnx' := hF.next
        have zl := z1.length_eq
        rw [nats_len] at zl
        rw [← zl]
        clear ks hF hB1 hBT hBo z1 z2
        iterate 2 (first | refine S0 ?_ | refine S1 ?_ | refine S2 ?_ | refine S3 ?_ | refine S4 ?_ | refine S5 ?_ | refine S6 ?_ | refine S7 ?_ | refine S8 ?_ | refine S9 ?_ | refine S10 ?_ | refine S11 ?_ | refine S13 ?_ | refine S15 ?_ | refine S16 ?_ | refine S19 ?_ | refine S20 ?_ | refine S21 ?_ | refine S22 ?_ | refine S23 ?_ | refine S24 ?_ | refine S25 ?_ | refine S26 ?_ | refine S27 ?_ | refine S29 ?_ | refine S32 ?_ | refine S34 ?_ | refine S36 ?_ | refine S37 ?_ | refine S38 ?_ | refine S40 ?_ | refine S41 ?_ | refine S46 ?_ | refine S49 ?_ | refine S50 ?_ | refine S52 ?_ | refine S56 ?_ | refine S63 ?_ | refine S65 ?_ | refine S68 ?_ | refine S73 ?_)
        refine CW.freezeI (xs := clsK r n k) 8 rfl HBx ?_
        have n1 : To ≠ 1 := by omega
        obtain ⟨h3, h3e⟩ : ∃ h3, h3 = h2.kill To := ⟨_, rfl⟩
        have B1 : h3.blk 1 = some [.ref T 0 1 (orK r n k).length] := by rw [h3e, HP.kill_other _ (fun e => n1 e.symm)]; exact hB1'
        have BT : h3.blk T = some ((orK r n k).map (LF true)) := by rw [h3e, HP.kill_other _ (fun e => hToT e.symm)]; exact hBT'
        have hn3 : h3.next = h2.next := by rw [h3e]; rfl
        rw [← h3e]
        clear h3e hB1' hBT' z3
        have h11 : 1 % 2 = 1 := rfl
        repeat (first | refine S0 ?_ | refine S1 ?_ | refine S2 ?_ | refine S3 ?_ | refine S4 ?_ | refine S5 ?_ | refine S6 ?_ | refine S7 ?_ | refine S8 ?_ | refine S9 ?_ | refine S10 ?_ | refine S11 ?_ | refine S13 ?_ | refine S15 ?_ | refine S16 ?_ | refine S19 ?_ | refine S20 ?_ | refine S21 ?_ | refine S22 ?_ | refine S23 ?_ | refine S24 ?_ | refine S25 ?_ | refine S26 ?_ | refine S27 ?_ | refine S29 ?_ | refine S32 ?_ | refine S34 ?_ | refine S36 ?_ | refine S37 ?_ | refine S38 ?_ | refine S40 ?_ | refine S41 ?_ | refine S46 ?_ | refine S49 ?_ | refine S50 ?_ | refine S52 ?_ | refine S56 ?_ | refine S63 ?_ | refine S65 ?_ | refine S68 ?_ | refine S73 ?_)
        refine Scall (args := [pli (clsK r n k)]) (clip_s _) ?_
        repeat (first | refine S0 ?_ | refine S1 ?_ | refine S2 ?_ | refine S3 ?_ | refine S4 ?_ | refine S5 ?_ | refine S6 ?_ | refine S7 ?_ | refine S8 ?_ | refine S9 ?_ | refine S10 ?_ | refine S11 ?_ | refine S13 ?_ | refine S15 ?_ | refine S16 ?_ | refine S19 ?_ | refine S20 ?_ | refine S21 ?_ | refine S22 ?_ | refine S23 ?_ | refine S24 ?_ | refine S25 ?_ | refine S26 ?_ | refine S27 ?_ | refine S29 ?_ | refine S32 ?_ | refine S34 ?_ | refine S36 ?_ | refine S37 ?_ | refine S38 ?_ | refine S40 ?_ | refine S41 ?_ | refine S46 ?_ | refine S49 ?_ | refine S50 ?_ | refine S52 ?_ | refine S56 ?_ | refine S63 ?_ | refine S65 ?_ | refine S68 ?_ | refine S73 ?_)
        have el : (orK r n (k + 1)).length = (orK r n k).length + 1 := by rw [e]; simp
        refine ⟨(k + 1, 2 * h3.next), ⟨by simp only; omega, by simp only; omega⟩, SLx, ⟨?_, ?_, (by first | omega | (simp only [HP.tokF, HP.tokT, HP.next_add, HP.next_set, HP.next_kill, HP.next_H0, HP.next_addS, HP.next_setS, HP.next_killS, HP.next_put, HP.next_bump, HP.next_putS]; omega)), (by first | omega | (simp only [HP.tokF, HP.tokT, HP.next_add, HP.next_set, HP.next_kill, HP.next_H0, HP.next_addS, HP.next_setS, HP.next_killS, HP.next_put, HP.next_bump, HP.next_putS]; omega))⟩, by simp only; omega⟩
        · simp only; rw [el]; exact HBx
        · simp only; rw [e]; exact HBx
  · obtain rfl : k = n := by omega
    repeat (first | refine S0 ?_ | refine S1 ?_ | refine S2 ?_ | refine S3 ?_ | refine S4 ?_ | refine S5 ?_ | refine S6 ?_ | refine S7 ?_ | refine S8 ?_ | refine S9 ?_ | refine S10 ?_ | refine S11 ?_ | refine S13 ?_ | refine S15 ?_ | refine S16 ?_ | refine S19 ?_ | refine S20 ?_ | refine S21 ?_ | refine S22 ?_ | refine S23 ?_ | refine S24 ?_ | refine S25 ?_ | refine S26 ?_ | refine S27 ?_ | refine S29 ?_ | refine S32 ?_ | refine S34 ?_ | refine S36 ?_ | refine S37 ?_ | refine S38 ?_ | refine S40 ?_ | refine S41 ?_ | refine S46 ?_ | refine S49 ?_ | refine S50 ?_ | refine S52 ?_ | refine S56 ?_ | refine S63 ?_ | refine S65 ?_ | refine S68 ?_ | refine S73 ?_)
    exact ⟨.inr rfl, Fz.refK hBT (by simp) (LFs_cl _ _)⟩
set_option maxHeartbeats 8000000 in
set_option maxRecDepth 100000 in
theorem Orbits_bad {n : Int} {c : Bool} {l : List (List Int)} (hb : ∀ r ∈ l, ∀ x ∈ r, in64 x) (hll : l.length ≤ 9223372036854775807) (h0 : grF n l ≠ 0) : SC Try.prog 16 [pint n, .lst c 1 l.length (l.map pli)] (.tup [.lst true 0 0 [], pint (grF n l)]) := by
  have kc := gcheck_s n (c := c) hb hll
  refine SC.go {} tok mixed Try.func16 rfl rfl Try.ntmps16 rfl rfl (by kernel_rfl) ?_
  first | simp only [updS] | simp only [updL, Nat.reduceAdd]
  repeat (first | refine S0 ?_ | refine S1 ?_ | refine S2 ?_ | refine S3 ?_ | refine S4 ?_ | refine S5 ?_ | refine S6 ?_ | refine S7 ?_ | refine S8 ?_ | refine S9 ?_ | refine S10 ?_ | refine S11 ?_ | refine S13 ?_ | refine S15 ?_ | refine S16 ?_ | refine S19 ?_ | refine S20 ?_ | refine S21 ?_ | refine S22 ?_ | refine S23 ?_ | refine S24 ?_ | refine S25 ?_ | refine S26 ?_ | refine S27 ?_ | refine S29 ?_ | refine S32 ?_ | refine S34 ?_ | refine S36 ?_ | refine S37 ?_ | refine S38 ?_ | refine S40 ?_ | refine S41 ?_ | refine S46 ?_ | refine S49 ?_ | refine S50 ?_ | refine S52 ?_ | refine S56 ?_ | refine S63 ?_ | refine S65 ?_ | refine S68 ?_ | refine S73 ?_)
  refine Scall (args := [pint n, .lst c 1 l.length (l.map pli)]) kc ?_
  generalize grF n l = y at *
  repeat (first | refine S0 ?_ | refine S1 ?_ | refine S2 ?_ | refine S3 ?_ | refine S4 ?_ | refine S5 ?_ | refine S6 ?_ | refine S7 ?_ | refine S8 ?_ | refine S9 ?_ | refine S10 ?_ | refine S11 ?_ | refine S13 ?_ | refine S15 ?_ | refine S16 ?_ | refine S19 ?_ | refine S20 ?_ | refine S21 ?_ | refine S22 ?_ | refine S23 ?_ | refine S24 ?_ | refine S25 ?_ | refine S26 ?_ | refine S27 ?_ | refine S29 ?_ | refine S32 ?_ | refine S34 ?_ | refine S36 ?_ | refine S37 ?_ | refine S38 ?_ | refine S40 ?_ | refine S41 ?_ | refine S46 ?_ | refine S49 ?_ | refine S50 ?_ | refine S52 ?_ | refine S56 ?_ | refine S63 ?_ | refine S65 ?_ | refine S68 ?_ | refine S73 ?_)
  exact ⟨.inr rfl, .cl rfl⟩
set_option maxHeartbeats 8000000 in
set_option maxRecDepth 100000 in
theorem Orbits_ok {n : Nat} (hn : n ≤ 9) {c : Bool} {gs : List Fn} (hg : ∀ g ∈ gs, Pe n g) (hl : gs.length ≤ 6) (h0 : SC Try.prog 13 [pint n, .lst c 1 gs.length (gL n gs)] (pint 0)) :
    SC Try.prog 16 [pint n, .lst c 1 gs.length (gL n gs)] (.tup [.lst true 1 (orK (namG n gs) n n).length ((orK (namG n gs) n n).map (LF true)), pint 0]) := by
  have ko := orbits_s hn (c := c) hg hl
  have kcl := clipL_s (b := false) (n := (orK (namG n gs) n n).length) (cs := (orK (namG n gs) n n).map (LF true)) (by simp) (LFs_cl _ _)
  generalize orK (namG n gs) n n = M at *
  refine SC.go {} tok mixed Try.func16 rfl rfl Try.ntmps16 rfl rfl (by kernel_rfl) ?_
  first | simp only [updS] | simp only [updL, Nat.reduceAdd]
  repeat (first | refine S0 ?_ | refine S1 ?_ | refine S2 ?_ | refine S3 ?_ | refine S4 ?_ | refine S5 ?_ | refine S6 ?_ | refine S7 ?_ | refine S8 ?_ | refine S9 ?_ | refine S10 ?_ | refine S11 ?_ | refine S13 ?_ | refine S15 ?_ | refine S16 ?_ | refine S19 ?_ | refine S20 ?_ | refine S21 ?_ | refine S22 ?_ | refine S23 ?_ | refine S24 ?_ | refine S25 ?_ | refine S26 ?_ | refine S27 ?_ | refine S29 ?_ | refine S32 ?_ | refine S34 ?_ | refine S36 ?_ | refine S37 ?_ | refine S38 ?_ | refine S40 ?_ | refine S41 ?_ | refine S46 ?_ | refine S49 ?_ | refine S50 ?_ | refine S52 ?_ | refine S56 ?_ | refine S63 ?_ | refine S65 ?_ | refine S68 ?_ | refine S73 ?_)
  refine Scall (args := [pint n, .lst c 1 gs.length (gL n gs)]) h0 ?_
  repeat (first | refine S0 ?_ | refine S1 ?_ | refine S2 ?_ | refine S3 ?_ | refine S4 ?_ | refine S5 ?_ | refine S6 ?_ | refine S7 ?_ | refine S8 ?_ | refine S9 ?_ | refine S10 ?_ | refine S11 ?_ | refine S13 ?_ | refine S15 ?_ | refine S16 ?_ | refine S19 ?_ | refine S20 ?_ | refine S21 ?_ | refine S22 ?_ | refine S23 ?_ | refine S24 ?_ | refine S25 ?_ | refine S26 ?_ | refine S27 ?_ | refine S29 ?_ | refine S32 ?_ | refine S34 ?_ | refine S36 ?_ | refine S37 ?_ | refine S38 ?_ | refine S40 ?_ | refine S41 ?_ | refine S46 ?_ | refine S49 ?_ | refine S50 ?_ | refine S52 ?_ | refine S56 ?_ | refine S63 ?_ | refine S65 ?_ | refine S68 ?_ | refine S73 ?_)
  refine Scall (args := [pint n, .lst c 1 gs.length (gL n gs)]) ko ?_
  repeat (first | refine S0 ?_ | refine S1 ?_ | refine S2 ?_ | refine S3 ?_ | refine S4 ?_ | refine S5 ?_ | refine S6 ?_ | refine S7 ?_ | refine S8 ?_ | refine S9 ?_ | refine S10 ?_ | refine S11 ?_ | refine S13 ?_ | refine S15 ?_ | refine S16 ?_ | refine S19 ?_ | refine S20 ?_ | refine S21 ?_ | refine S22 ?_ | refine S23 ?_ | refine S24 ?_ | refine S25 ?_ | refine S26 ?_ | refine S27 ?_ | refine S29 ?_ | refine S32 ?_ | refine S34 ?_ | refine S36 ?_ | refine S37 ?_ | refine S38 ?_ | refine S40 ?_ | refine S41 ?_ | refine S46 ?_ | refine S49 ?_ | refine S50 ?_ | refine S52 ?_ | refine S56 ?_ | refine S63 ?_ | refine S65 ?_ | refine S68 ?_ | refine S73 ?_)
  refine Scall (args := [.lst false 1 M.length (M.map (LF true))]) kcl ?_ (hc := by simp only [PV.cl.clL, PV.cl, LFs_cl]; rfl)
  repeat (first | refine S0 ?_ | refine S1 ?_ | refine S2 ?_ | refine S3 ?_ | refine S4 ?_ | refine S5 ?_ | refine S6 ?_ | refine S7 ?_ | refine S8 ?_ | refine S9 ?_ | refine S10 ?_ | refine S11 ?_ | refine S13 ?_ | refine S15 ?_ | refine S16 ?_ | refine S19 ?_ | refine S20 ?_ | refine S21 ?_ | refine S22 ?_ | refine S23 ?_ | refine S24 ?_ | refine S25 ?_ | refine S26 ?_ | refine S27 ?_ | refine S29 ?_ | refine S32 ?_ | refine S34 ?_ | refine S36 ?_ | refine S37 ?_ | refine S38 ?_ | refine S40 ?_ | refine S41 ?_ | refine S46 ?_ | refine S49 ?_ | refine S50 ?_ | refine S52 ?_ | refine S56 ?_ | refine S63 ?_ | refine S65 ?_ | refine S68 ?_ | refine S73 ?_)
  exact ⟨.inr rfl, .cl (show PV.cl (.tup [.lst true 1 M.length (M.map (LF true)), pint 0]) = true by simp only [PV.cl, PV.cl.clL, LFs_cl]; rfl)⟩
set_option maxHeartbeats 8000000 in
set_option maxRecDepth 100000 in
theorem stabo_bad {n p : Int} {c : Bool} {l : List (List Int)} (hb : ∀ r ∈ l, ∀ x ∈ r, in64 x) (hll : l.length ≤ 9223372036854775807) (h0 : grF n l ≠ 0) : SC Try.prog 17 [pint n, .lst c 1 l.length (l.map pli), pint p] (.tup [pint 0, pint (grF n l)]) := by
  have kc := gorder_bad (n := n) (c := c) hb hll h0
  refine SC.go {} tok mixed Try.func17 rfl rfl Try.ntmps17 rfl rfl (by kernel_rfl) ?_
  first | simp only [updS] | simp only [updL, Nat.reduceAdd]
  repeat (first | refine S0 ?_ | refine S1 ?_ | refine S2 ?_ | refine S3 ?_ | refine S4 ?_ | refine S5 ?_ | refine S6 ?_ | refine S7 ?_ | refine S8 ?_ | refine S9 ?_ | refine S10 ?_ | refine S11 ?_ | refine S13 ?_ | refine S15 ?_ | refine S16 ?_ | refine S19 ?_ | refine S20 ?_ | refine S21 ?_ | refine S22 ?_ | refine S23 ?_ | refine S24 ?_ | refine S25 ?_ | refine S26 ?_ | refine S27 ?_ | refine S29 ?_ | refine S32 ?_ | refine S34 ?_ | refine S36 ?_ | refine S37 ?_ | refine S38 ?_ | refine S40 ?_ | refine S41 ?_ | refine S46 ?_ | refine S49 ?_ | refine S50 ?_ | refine S52 ?_ | refine S56 ?_ | refine S63 ?_ | refine S65 ?_ | refine S68 ?_ | refine S73 ?_)
  refine Scall (args := [pint n, .lst c 1 l.length (l.map pli)]) kc ?_
  generalize grF n l = y at *
  repeat (first | refine S0 ?_ | refine S1 ?_ | refine S2 ?_ | refine S3 ?_ | refine S4 ?_ | refine S5 ?_ | refine S6 ?_ | refine S7 ?_ | refine S8 ?_ | refine S9 ?_ | refine S10 ?_ | refine S11 ?_ | refine S13 ?_ | refine S15 ?_ | refine S16 ?_ | refine S19 ?_ | refine S20 ?_ | refine S21 ?_ | refine S22 ?_ | refine S23 ?_ | refine S24 ?_ | refine S25 ?_ | refine S26 ?_ | refine S27 ?_ | refine S29 ?_ | refine S32 ?_ | refine S34 ?_ | refine S36 ?_ | refine S37 ?_ | refine S38 ?_ | refine S40 ?_ | refine S41 ?_ | refine S46 ?_ | refine S49 ?_ | refine S50 ?_ | refine S52 ?_ | refine S56 ?_ | refine S63 ?_ | refine S65 ?_ | refine S68 ?_ | refine S73 ?_)
  exact ⟨.inr rfl, .cl rfl⟩
set_option maxHeartbeats 8000000 in
set_option maxRecDepth 100000 in
theorem stabo_out {n : Nat} {p : Int} {c : Bool} {gs : List Fn} {s : Int} (hp : p < 0 ∨ (n : Int) ≤ p) (ko : SC Try.prog 14 [pint n, .lst c 1 gs.length (gL n gs)] (.tup [pint s, pint 0])) :
    SC Try.prog 17 [pint n, .lst c 1 gs.length (gL n gs), pint p] (.tup [pint 0, pint 1]) := by
  refine SC.go {} tok mixed Try.func17 rfl rfl Try.ntmps17 rfl rfl (by kernel_rfl) ?_
  first | simp only [updS] | simp only [updL, Nat.reduceAdd]
  repeat (first | refine S0 ?_ | refine S1 ?_ | refine S2 ?_ | refine S3 ?_ | refine S4 ?_ | refine S5 ?_ | refine S6 ?_ | refine S7 ?_ | refine S8 ?_ | refine S9 ?_ | refine S10 ?_ | refine S11 ?_ | refine S13 ?_ | refine S15 ?_ | refine S16 ?_ | refine S19 ?_ | refine S20 ?_ | refine S21 ?_ | refine S22 ?_ | refine S23 ?_ | refine S24 ?_ | refine S25 ?_ | refine S26 ?_ | refine S27 ?_ | refine S29 ?_ | refine S32 ?_ | refine S34 ?_ | refine S36 ?_ | refine S37 ?_ | refine S38 ?_ | refine S40 ?_ | refine S41 ?_ | refine S46 ?_ | refine S49 ?_ | refine S50 ?_ | refine S52 ?_ | refine S56 ?_ | refine S63 ?_ | refine S65 ?_ | refine S68 ?_ | refine S73 ?_)
  refine Scall (args := [pint n, .lst c 1 gs.length (gL n gs)]) ko ?_
  by_cases h : p < 0
  · repeat (first | refine S0 ?_ | refine S1 ?_ | refine S2 ?_ | refine S3 ?_ | refine S4 ?_ | refine S5 ?_ | refine S6 ?_ | refine S7 ?_ | refine S8 ?_ | refine S9 ?_ | refine S10 ?_ | refine S11 ?_ | refine S13 ?_ | refine S15 ?_ | refine S16 ?_ | refine S19 ?_ | refine S20 ?_ | refine S21 ?_ | refine S22 ?_ | refine S23 ?_ | refine S24 ?_ | refine S25 ?_ | refine S26 ?_ | refine S27 ?_ | refine S29 ?_ | refine S32 ?_ | refine S34 ?_ | refine S36 ?_ | refine S37 ?_ | refine S38 ?_ | refine S40 ?_ | refine S41 ?_ | refine S46 ?_ | refine S49 ?_ | refine S50 ?_ | refine S52 ?_ | refine S56 ?_ | refine S63 ?_ | refine S65 ?_ | refine S68 ?_ | refine S73 ?_)
    exact ⟨.inr rfl, .cl rfl⟩
  · repeat (first | refine S0 ?_ | refine S1 ?_ | refine S2 ?_ | refine S3 ?_ | refine S4 ?_ | refine S5 ?_ | refine S6 ?_ | refine S7 ?_ | refine S8 ?_ | refine S9 ?_ | refine S10 ?_ | refine S11 ?_ | refine S13 ?_ | refine S15 ?_ | refine S16 ?_ | refine S19 ?_ | refine S20 ?_ | refine S21 ?_ | refine S22 ?_ | refine S23 ?_ | refine S24 ?_ | refine S25 ?_ | refine S26 ?_ | refine S27 ?_ | refine S29 ?_ | refine S32 ?_ | refine S34 ?_ | refine S36 ?_ | refine S37 ?_ | refine S38 ?_ | refine S40 ?_ | refine S41 ?_ | refine S46 ?_ | refine S49 ?_ | refine S50 ?_ | refine S52 ?_ | refine S56 ?_ | refine S63 ?_ | refine S65 ?_ | refine S68 ?_ | refine S73 ?_)
    exact ⟨.inr rfl, .cl rfl⟩
set_option maxHeartbeats 8000000 in
set_option maxRecDepth 100000 in
theorem stabo_ok {n p : Nat} (hn : n ≤ 9) (hp : p < n) {c : Bool} {gs : List Fn} (hg : ∀ g ∈ gs, Pe n g) (hl : gs.length ≤ 6) {E : List Fn} (hE : E.Nodup) (hm : ∀ q, q ∈ E ↔ Gm (· ∈ gs) q) (hEl : E.length ≤ 1000000) (ko : SC Try.prog 14 [pint n, .lst c 1 gs.length (gL n gs)] (.tup [pint (E.length : Nat), pint 0])) :
    SC Try.prog 17 [pint n, .lst c 1 gs.length (gL n gs), pint p] (.tup [pint ((E.filter fun F => decide (F p = p)).length : Nat), pint 0]) := by
  have kO := orbits_s hn (c := c) hg hl
  have hor := orb_stab hn hg hE hm hp
  have hle := orK_le (namG n gs) n n
  have hrow := orK_row (r := namG n gs) (n := n) (k := n)
  obtain ⟨z, kz, hz⟩ := anyrow_s (ms := orK (namG n gs) n n) (x := (p : Int)) (b := false) (f := 38) (c := true) (by omega) (fun l hl => by have := hrow l hl; omega) (stabo1_s true (p : Int))
  obtain ⟨m, hml, rfl, hin, _⟩ : ∃ m : Nat, m < (orK (namG n gs) n n).length ∧ z = (m : Int) ∧ (p : Int) ∈ (orK (namG n gs) n n).getD m [] ∧ ∀ k, k < m → (p : Int) ∉ (orK (namG n gs) n n).getD k [] := by
    rcases hz with ⟨_, h⟩ | h
    · exfalso
      obtain ⟨i, h1, h2, _⟩ := fstK_ex (namG n gs) hp
      exact h _ (List.mem_map.2 ⟨i, h1, rfl⟩) (mem_clsK.2 ⟨p, rfl, hp, h2.symm⟩)
    · exact h
  have hlen : ((orK (namG n gs) n n).getD m []).length = ((List.range n).filter fun z => decide (namG n gs z = namG n gs p)).length := by
    obtain ⟨i, h1, h2⟩ := List.mem_map.1 (mem_getD hml [])
    rw [← h2] at hin ⊢
    obtain ⟨z, e1, e2, e3⟩ := mem_clsK.1 hin
    obtain rfl : p = z := by omega
    unfold clsK
    rw [List.length_map, e3]
  have hpos : 0 < ((List.range n).filter fun z => decide (namG n gs z = namG n gs p)).length := List.length_pos_of_mem (List.mem_filter.2 ⟨List.mem_range.2 hp, decide_eq_true rfl⟩)
  rw [← hlen] at hor hpos
  have hge : ((orK (namG n gs) n n).map (LF true))[m]? = some (LF true ((orK (namG n gs) n n).getD m [])) := mapI_at hml
  have hdiv : ((E.length : Nat) : Int) / (((orK (namG n gs) n n).getD m []).length : Nat) = (((E.filter fun F => decide (F p = p)).length : Nat) : Int) := by
    rw [← hor, Int.natCast_mul]
    exact Int.mul_ediv_cancel_left _ (by omega)
  generalize orK (namG n gs) n n = M at *
  generalize (E.filter fun F => decide (F p = p)).length = q at *
  generalize hel : E.length = e at *
  refine SC.go {} tok mixed Try.func17 rfl rfl Try.ntmps17 rfl rfl (by kernel_rfl) ?_
  first | simp only [updS] | simp only [updL, Nat.reduceAdd]
  repeat (first | refine S0 ?_ | refine S1 ?_ | refine S2 ?_ | refine S3 ?_ | refine S4 ?_ | refine S5 ?_ | refine S6 ?_ | refine S7 ?_ | refine S8 ?_ | refine S9 ?_ | refine S10 ?_ | refine S11 ?_ | refine S13 ?_ | refine S15 ?_ | refine S16 ?_ | refine S19 ?_ | refine S20 ?_ | refine S21 ?_ | refine S22 ?_ | refine S23 ?_ | refine S24 ?_ | refine S25 ?_ | refine S26 ?_ | refine S27 ?_ | refine S29 ?_ | refine S32 ?_ | refine S34 ?_ | refine S36 ?_ | refine S37 ?_ | refine S38 ?_ | refine S40 ?_ | refine S41 ?_ | refine S46 ?_ | refine S49 ?_ | refine S50 ?_ | refine S52 ?_ | refine S56 ?_ | refine S63 ?_ | refine S65 ?_ | refine S68 ?_ | refine S73 ?_)
  refine Scall (args := [pint n, .lst c 1 gs.length (gL n gs)]) ko ?_
  repeat (first | refine S0 ?_ | refine S1 ?_ | refine S2 ?_ | refine S3 ?_ | refine S4 ?_ | refine S5 ?_ | refine S6 ?_ | refine S7 ?_ | refine S8 ?_ | refine S9 ?_ | refine S10 ?_ | refine S11 ?_ | refine S13 ?_ | refine S15 ?_ | refine S16 ?_ | refine S19 ?_ | refine S20 ?_ | refine S21 ?_ | refine S22 ?_ | refine S23 ?_ | refine S24 ?_ | refine S25 ?_ | refine S26 ?_ | refine S27 ?_ | refine S29 ?_ | refine S32 ?_ | refine S34 ?_ | refine S36 ?_ | refine S37 ?_ | refine S38 ?_ | refine S40 ?_ | refine S41 ?_ | refine S46 ?_ | refine S49 ?_ | refine S50 ?_ | refine S52 ?_ | refine S56 ?_ | refine S63 ?_ | refine S65 ?_ | refine S68 ?_ | refine S73 ?_)
  refine Scall (args := [pint n, .lst c 1 gs.length (gL n gs)]) kO ?_
  repeat (first | refine S0 ?_ | refine S1 ?_ | refine S2 ?_ | refine S3 ?_ | refine S4 ?_ | refine S5 ?_ | refine S6 ?_ | refine S7 ?_ | refine S8 ?_ | refine S9 ?_ | refine S10 ?_ | refine S11 ?_ | refine S13 ?_ | refine S15 ?_ | refine S16 ?_ | refine S19 ?_ | refine S20 ?_ | refine S21 ?_ | refine S22 ?_ | refine S23 ?_ | refine S24 ?_ | refine S25 ?_ | refine S26 ?_ | refine S27 ?_ | refine S29 ?_ | refine S32 ?_ | refine S34 ?_ | refine S36 ?_ | refine S37 ?_ | refine S38 ?_ | refine S40 ?_ | refine S41 ?_ | refine S46 ?_ | refine S49 ?_ | refine S50 ?_ | refine S52 ?_ | refine S56 ?_ | refine S63 ?_ | refine S65 ?_ | refine S68 ?_ | refine S73 ?_)
  refine Scall (args := [.lst false 1 M.length (M.map (LF true)), .clo 38 [.lptr [pint p]]]) kz ?_ (hc := by simp only [PV.cl.clL, PV.cl, LFs_cl]; rfl)
  repeat (first | refine S0 ?_ | refine S1 ?_ | refine S2 ?_ | refine S3 ?_ | refine S4 ?_ | refine S5 ?_ | refine S6 ?_ | refine S7 ?_ | refine S8 ?_ | refine S9 ?_ | refine S10 ?_ | refine S11 ?_ | refine S13 ?_ | refine S15 ?_ | refine S16 ?_ | refine S19 ?_ | refine S20 ?_ | refine S21 ?_ | refine S22 ?_ | refine S23 ?_ | refine S24 ?_ | refine S25 ?_ | refine S26 ?_ | refine S27 ?_ | refine S29 ?_ | refine S32 ?_ | refine S34 ?_ | refine S36 ?_ | refine S37 ?_ | refine S38 ?_ | refine S40 ?_ | refine S41 ?_ | refine S46 ?_ | refine S49 ?_ | refine S50 ?_ | refine S52 ?_ | refine S56 ?_ | refine S63 ?_ | refine S65 ?_ | refine S68 ?_ | refine S73 ?_)
  rw [hdiv]
  exact ⟨.inr rfl, .cl rfl⟩
end Go.Proofs.Ythacglggkgmbhaa
