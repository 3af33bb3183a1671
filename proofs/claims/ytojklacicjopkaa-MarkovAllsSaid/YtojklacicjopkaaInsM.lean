/- slices.Insert on a slice of the caller's own: the result is frozen. No condition of its own. -/
import Derived.Test.YtojklacicjopkaaStd
import Derived.Test.YtojklacicjopkaaGrowC
import Derived.Test.YtojklacicjopkaaAbsU
import Derived.Test.YtojklacicjopkaaAbsLib
import Derived.Shelf.Spec.SlicesInsert
import Derived.Shelf.Spec.SlicesInsertGrow
set_option linter.unusedVariables false
set_option linter.unusedSimpArgs false
namespace Go.Proofs.Ytojklacicjopkaa
open Go.RowKit Go.Shelf Go.Lib

def insRen : Go.Shelf.Ren := ⟨fun | 21 => 18 | 27 => 27 | 28 => 28 | 35 => 33 | 39 => 34 | n => n, fun | 22 => 22 | 3 => 3 | 4 => 4 | 0 => 0 | n => n, fun | n => n⟩
theorem insL : Lays2.n21 Try.prog insRen := {
  mixed := by kernel_rfl
  f21 := Try.func18.trans (congrArg some (by kernel_rfl))
  f27 := Try.func27.trans (congrArg some (by kernel_rfl))
  f28 := Try.func28.trans (congrArg some (by kernel_rfl))
  f35 := Try.func33.trans (congrArg some (by kernel_rfl))
  f39 := Try.func34.trans (congrArg some (by kernel_rfl))
  t0 := Try.underlying0
  a0 := Try.isAgg0
  z0 := Try.sizeOf0
  v0 := Try.zeroValue0
  t3 := Try.underlying3
  a3 := Try.isAgg3
  z3 := Try.sizeOf3
  v3 := Try.zeroValue3
  t4 := Try.underlying4
  a4 := Try.isAgg4
  z4 := Try.sizeOf4
  v4 := Try.zeroValue4
  t22 := Try.underlying22
  a22 := Try.isAgg22
  z22 := Try.sizeOf22
  v22 := Try.zeroValue22
  i3 := by kernel_rfl }
theorem setCells_facts {b : Nat} {T : TypeId} {q : Nat × Nat} : ∀ (vs : List Value) (o : Nat) (w : World) (arr : Array Value), w.heap[b]? = some (.cells arr T q) →
    ∃ arr' : Array Value, arr'.size = arr.size ∧ (w.setCells b o vs).heap[b]? = some (.cells arr' T q) ∧ (∀ k, k ≠ b → (w.setCells b o vs).heap[k]? = w.heap[k]?) ∧ (w.setCells b o vs).heap.size = w.heap.size ∧ (w.setCells b o vs).os = w.os ∧ (w.setCells b o vs).tape = w.tape ∧ (w.setCells b o vs).output = w.output
  | [], o, w, arr, h => ⟨arr, rfl, h, fun _ _ => rfl, rfl, rfl, rfl, rfl⟩
  | v :: r, o, w, arr, h => by
    have h1 : (w.setCell ⟨b, o, none⟩ v).heap[b]? = some (.cells (arr.setIfInBounds o v) T q) := by simp [World.setCell, Array.getElem?_modify, h]
    obtain ⟨a', e1, e2, e3, e4, e5, e6, e7⟩ := setCells_facts r (o + 1) _ _ h1
    refine ⟨a', by simpa using e1, e2, fun k hk => ?_, ?_, e5, e6, e7⟩
    · rw [World.setCells, e3 k hk]
      have : ¬ b = k := fun h => hk h.symm
      simp [World.setCell, Array.getElem?_modify, this]
    · rw [World.setCells, e4]; simp [World.setCell]
section
variable {w0 : World} {Z0 : Nat → Prop} {ρ : Pl} {h : HP} {w w' : World} {tk b o : Nat} {cs : List PV} {arr : Array Value} {T : TypeId} {ys : List Int}
/-- the block turned in place, and frozen -/
theorem fin_in (H : HRel w0 Z0 ρ h w) (ht : h.blk tk = some cs) (hr : ρ tk = some (b, o)) (hb : w.heap[b]? = some (.cells arr T (0, 0))) {cap : Nat} (hy : ys.length ≤ cap) (hcap : o + cap ≤ arr.size) (hm : cap ≤ maxLen)
    {arr' : Array Value} (e1 : arr'.size = arr.size) (e2 : w'.heap[b]? = some (.cells arr' T (0, 0))) (e3 : ∀ k, k ≠ b → w'.heap[k]? = w.heap[k]?) (e4 : w'.heap.size = w.heap.size) (e5 : w'.os = w.os) (e6 : w'.tape = w.tape) (e7 : w'.output = w.output)
    (hc : ∀ j, j < ys.length → w'.cell? ⟨b, o + j, none⟩ = some (.int .i64 (ys.getD j 0))) :
    HRel w0 Z0 ρ (h.kill tk) w' ∧ V ρ (Zof Z0 ρ (h.kill tk)) w' (pli ys) (.slice (some ⟨b, o, none⟩) ys.length cap) ∧ ∀ pv x, V ρ (Zof Z0 ρ h) w pv x → V ρ (Zof Z0 ρ (h.kill tk)) w' pv x := by
  have hbw : Below (w.setRow b arr').heap.size (w.setRow b arr') w' := ⟨e5, e6, e7, by rw [setRow_size, e4]; exact Nat.le_refl _, fun k _ => by
    by_cases hk : k = b
    · subst hk; rw [e2, setRow_heap _ _ _ _ _ _ hb]
    · rw [e3 k hk, setRow_other _ _ _ _ hk]⟩
  have hcell : ∀ j, j < ys.length → arr'.getD (o + j) undef = .int .i64 (ys.getD j 0) := fun j hj => by
    have h1 := hc j hj
    rw [cell_live e2 (by omega)] at h1
    exact Option.some.inj h1
  obtain ⟨H1, up1⟩ := H.write ht hr hb arr' e1 (ints ys) (by rw [ints_length]; omega) (fun i hi => by
    rw [ints_length] at hi
    rw [hcell i hi]
    rw [show (ints ys).getD i .junk = .sc (.int .i64 (ys.getD i 0)) by simp [ints, List.getD, hi]]
    exact .sc _)
  have H2 := H1.step hbw
  have up2 : ∀ pv x, V ρ (Zof Z0 ρ (h.set tk (ints ys))) (w.setRow b arr') pv x → V ρ (Zof Z0 ρ (h.set tk (ints ys))) w' pv x := fun pv x hx => hx.ext (Ext.of_below hbw) (fun _ _ h => h) (fun _ _ h => h)
  obtain ⟨H3, up3⟩ := H2.kill tk
  have ek : (h.set tk (ints ys)).kill tk = h.kill tk := by
    unfold HP.set HP.kill
    congr 1
    funext x
    show (bif Nat.beq x tk then none else (bif Nat.beq x tk then some (ints ys) else h.blk x)) = (bif Nat.beq x tk then none else h.blk x)
    cases Nat.beq x tk <;> rfl
  rw [ek] at H3 up3
  refine ⟨H3, ?_, fun pv x hx => up3 _ _ (up2 _ _ (up1 _ _ hx))⟩
  refine .lst false 1 ys.length cap (ints ys) _ (fun j => .int .i64 (ys.getD j 0)) hy (fun e => by cases e) hm (by rw [ints_length]; omega) (fun _ => ⟨b, o, rfl, ?_, lt_of_heap e2, fun j hj => hc j (by rwa [ints_length] at hj)⟩) (fun j hj => ?_)
  · rintro (hz | ⟨t, c, o', h1, h2⟩ | ⟨t, c, h1, h2⟩)
    · have := H.z0 b hz
      rcases H.live tk cs ht with ⟨_, g⟩ | ⟨b1, o1, a1, T1, g1, g2, _⟩
      · rw [hr] at g; cases g
      · rw [hr] at g1; cases g1; omega
    · obtain ⟨g1, g2⟩ := HP.kill_some h1
      exact g1 (H.inj t tk c cs b o' o g2 ht h2 hr)
    · exact H.apart h1 h2 hb
  · rw [ints_length] at hj
    rw [show (ints ys).getD j .junk = .sc (.int .i64 (ys.getD j 0)) by simp [ints, List.getD, hj]]
    exact .sc _
/-- a new block -/
theorem fin_new (H : HRel w0 Z0 ρ h w) (tk : Nat) {cap : Nat} (hy : ys.length ≤ cap) (hm : cap ≤ maxLen) (hbw : Below w.heap.size w w') (hs : w.heap.size < w'.heap.size)
    (hc : ∀ j, j < ys.length → w'.cell? ⟨w.heap.size, j, none⟩ = some (.int .i64 (ys.getD j 0))) :
    HRel w0 Z0 ρ (h.kill tk) w' ∧ V ρ (Zof Z0 ρ (h.kill tk)) w' (pli ys) (.slice (some ⟨w.heap.size, 0, none⟩) ys.length cap) ∧ ∀ pv x, V ρ (Zof Z0 ρ h) w pv x → V ρ (Zof Z0 ρ (h.kill tk)) w' pv x := by
  obtain ⟨H1, up1⟩ := H.kill tk
  have H2 := H1.step hbw
  refine ⟨H2, ?_, fun pv x hx => (up1 _ _ hx).ext (Ext.of_below hbw) (fun _ _ h => h) (fun _ _ h => h)⟩
  refine .lst false 1 ys.length cap (ints ys) _ (fun j => .int .i64 (ys.getD j 0)) hy (fun e => by cases e) hm (by rw [ints_length]; omega) (fun _ => ⟨w.heap.size, 0, rfl, fun hz => ?_, hs, fun j hj => by rw [Nat.zero_add]; exact hc j (by rwa [ints_length] at hj)⟩) (fun j hj => ?_)
  · have := H1.zlt _ hz
    omega
  · rw [ints_length] at hj
    rw [show (ints ys).getD j .junk = .sc (.int .i64 (ys.getD j 0)) by simp [ints, List.getD, hj]]
    exact .sc _
end
def encs (xs : List Int) : List Value := xs.map (Value.int .i64)
theorem encs_length (xs : List Int) : (encs xs).length = xs.length := by simp [encs]
theorem encs_get {xs : List Int} {j : Nat} {v : Value} (h : (encs xs)[j]? = some v) : j < xs.length ∧ v = .int .i64 (xs.getD j 0) := by
  unfold encs at h
  rw [List.getElem?_map] at h
  by_cases hj : j < xs.length
  · rw [List.getElem?_eq_getElem hj] at h
    refine ⟨hj, ?_⟩
    rw [getD_lt 0 hj]
    exact (Option.some.inj h).symm
  · rw [List.getElem?_eq_none (by omega)] at h; cases h
theorem encs_one (xs : List Int) : ∀ v ∈ encs xs, v.oneCell' = true := fun v hv => by
  obtain ⟨x, _, rfl⟩ := List.mem_map.1 hv; rfl
theorem encs_at {xs : List Int} {j : Nat} (hj : j < (encs xs).length) : (encs xs)[j] = .int .i64 (xs.getD j 0) := by
  have hj' : j < xs.length := by rwa [encs_length] at hj
  simp [encs, List.getD, hj']
theorem zero_cells_size (n : Nat) : (Builtin.zeroCells (Value.int .i64 0).cells n).size = n := by
  have := congrArg List.length (zeroCells_one (c := (Value.int .i64 0).cells) (z := .int .i64 0) n rfl)
  simpa using this
/-- what Insert leaves, cell by cell -/
theorem ins_get (zs vs : List Int) (i j : Nat) (hi : i ≤ zs.length) (hj : j < zs.length + vs.length) :
    (zs.take i ++ vs ++ zs.drop i).getD j 0 = if j < i then zs.getD j 0 else if j < i + vs.length then vs.getD (j - i) 0 else zs.getD (j - vs.length) 0 := by
  have hl : (zs.take i).length = i := by rw [List.length_take]; omega
  simp only [List.getD]
  by_cases h1 : j < i
  · rw [if_pos h1, List.append_assoc, List.getElem?_append_left (by omega), List.getElem?_take, if_pos h1]
  · rw [if_neg h1]
    by_cases h2 : j < i + vs.length
    · rw [if_pos h2, List.append_assoc, List.getElem?_append_right (by omega), hl, List.getElem?_append_left (by omega)]
    · rw [if_neg h2, List.getElem?_append_right (by rw [List.length_append]; omega), List.length_append, hl, List.getElem?_drop]
      congr 2
      omega
theorem drew_cell (w : World) (a : Addr) : w.drew.cell? a = w.cell? a := rfl
theorem insert_h {h : HP} {tk tv : Nat} {zs vs : List Int} {i : Nat} (hb : h.blk tk = some (ints zs)) (hv : h.blk tv = some (ints vs)) (hne : tk ≠ tv) (hi : i ≤ zs.length) (hm : 0 < vs.length) (hn : zs.length + vs.length ≤ 1000000) :
    SCh Try.prog 18 [.ref tk 0 1 zs.length, pint i, .ref tv 0 1 vs.length] h (pli (zs.take i ++ vs ++ zs.drop i)) (h.kill tk) := by
  refine ⟨callable Try.func18 rfl rfl, fun w0 Z0 ρ w us H hs hV => ?_⟩
  obtain ⟨ys, hys⟩ : ∃ ys, ys = zs.take i ++ vs ++ zs.drop i := ⟨_, rfl⟩
  have hyl : ys.length = zs.length + vs.length := by rw [hys]; simp; omega
  have hyg : ∀ j, j < zs.length + vs.length → ys.getD j 0 = if j < i then zs.getD j 0 else if j < i + vs.length then vs.getD (j - i) 0 else zs.getD (j - vs.length) 0 := fun j hj => by rw [hys]; exact ins_get zs vs i j hi hj
  rw [← hys]
  clear hys
  obtain ⟨l, rfl⟩ : ∃ l : List Value, us = l.toArray := ⟨us.toList, by simp⟩
  match l, hs with
  | [x0, x1, x2], _ =>
    have V0 : V ρ (Zof Z0 ρ h) w (.ref tk 0 1 zs.length) x0 := hV 0 (by simp)
    have V1 : V ρ (Zof Z0 ρ h) w (pint i) x1 := hV 1 (by simp)
    have V2 : V ρ (Zof Z0 ρ h) w (.ref tv 0 1 vs.length) x2 := hV 2 (by simp)
    cases V1
    cases V0 with
    | ref _ _ _ _ cap A hc1 hc2 hc3 =>
      cases V2 with
      | ref _ _ _ _ cv B hd1 hd2 hd3 =>
        obtain ⟨vb, vo, varr, vT, r2, rfl, hvb, hvs⟩ := hd3 (by omega)
        rcases H.live tv _ hv with ⟨g, _⟩ | ⟨vb', vo', varr', vT', q1, _, q3, q4, q5⟩
        · exact absurd (by rw [← ints_length vs, g]; rfl) (Nat.ne_of_gt hm)
        rw [r2] at q1; cases q1
        rw [hvb] at q3; cases q3
        have hvc : ∀ j v, (encs vs)[j]? = some v → w.cell? ⟨vb, vo + 0 + j, none⟩ = some v := fun j v hj => by
          obtain ⟨hj1, rfl⟩ := encs_get hj
          rw [ints_length] at q4
          have q6 := q5 j (by rw [ints_length]; exact hj1)
          rw [show (ints vs).getD j .junk = .sc (.int .i64 (vs.getD j 0)) by simp [ints, List.getD, hj1]] at q6
          rw [Nat.add_zero, cell_live hvb (by omega), q6.sc_inv]
        unfold maxLen at hc2
        have hmx : ∀ c : Nat, c ≤ 9223372036854775807 → c ≤ maxLen := fun c hc => by unfold maxLen; omega
        by_cases hcap : cap = 0
        · subst hcap
          have hz : zs = [] := List.length_eq_zero_iff.1 (by omega)
          subst hz
          have hi0 : i = 0 := by simpa using hi
          subst hi0
          refine (Any2.slices_Insert_int_end_grow insL A 0 0 vb (vo + 0) vs.length cv [] (encs vs) w hm (Nat.le_refl _) (by omega) (by simp at hn; omega) rfl (encs_length _) (fun _ => rfl) (fun a _ j v hj => by simp at hj) hvc (encs_one _)).mono ?_
          rintro e w' ⟨rfl, rfl⟩
          have hG := grownCap_ge w (0 + vs.length) 0 (insRen.t 3)
          have hG2 := grownCap_le_maxLen w (0 + vs.length) 0 (insRen.t 3) (by unfold maxLen; simp at hn; omega)
          generalize grownCap w (0 + vs.length) 0 (insRen.t 3) = G at *
          have hl0 : ys.length = 0 + vs.length := by rw [hyl]; rfl
          have := fin_new (w' := w.drew.alloc (.cells (([] ++ encs vs).toArray ++ Builtin.zeroCells (Value.int .i64 0).cells (G - (0 + vs.length))) (insRen.t 3))) (ys := ys) (cap := G) H tk (by omega) hG2 (below_drew_alloc w _) (by rw [World.size_alloc]; exact Nat.lt_succ_self _) (fun j hj => ?_)
          · rw [hl0] at this
            exact ⟨_, ρ, rfl, this.1, this.2.1, this.2.2⟩
          · rw [hyl] at hj
            rw [hyg j hj, if_neg (by omega), if_pos (by simp at hj; omega)]
            have hj' : j < vs.length := by simpa using hj
            have hX : ∀ X, (w.drew.alloc X).heap[w.heap.size]? = some X := fun X => by show (w.heap.push _)[w.heap.size]? = _; simp
            simp only [World.cell?, hX]
            simp [encs, hj', Array.getElem?_append, List.getD]
        · obtain ⟨b, o, arr, T, r1, rfl, hbk, hsz⟩ := hc3 hcap
          rcases H.live tk _ hb with ⟨_, g⟩ | ⟨b', o', arr', T', p1, _, p3, p4, p5⟩
          · rw [r1] at g; cases g
          rw [r1] at p1; cases p1
          rw [hbk] at p3; cases p3
          rw [ints_length] at p4
          have hne2 : vb ≠ b := fun e => hne (H.inj tk tv _ _ b o vo hb hv r1 (by rw [r2, e]))
          have hcc : ∀ j v, (encs zs)[j]? = some v → w.cell? ⟨b, o + 0 + j, none⟩ = some v := fun j v hj => by
            obtain ⟨hj1, rfl⟩ := encs_get hj
            have q6 := p5 j (by rw [ints_length]; exact hj1)
            rw [show (ints zs).getD j .junk = .sc (.int .i64 (zs.getD j 0)) by simp [ints, List.getD, hj1]] at q6
            rw [Nat.add_zero, cell_live hbk (by omega), q6.sc_inv]
          have hzc : ∀ j, j < zs.length → w.cell? ⟨b, o + 0 + j, none⟩ = some (.int .i64 (zs.getD j 0)) := fun j hj => hcc j _ (by simp [encs, List.getD, hj])
          have hsome : ∀ j, j < cap → (w.cell? ⟨b, o + 0 + j, none⟩).isSome = true := fun j hj => by rw [cell_live hbk (by omega)]; rfl
          have hfr : ∀ j, w.frozen? ⟨b, j, none⟩ = false := fun j => by simp [World.frozen?, hbk]
          by_cases hroom : zs.length + vs.length ≤ cap
          · by_cases hin : i < zs.length
            · refine (Any2.slices_Insert_int_shift insL b (o + 0) zs.length cap i vb (vo + 0) vs.length cv (encs zs) (encs vs) w hin hm hroom hc2 hne2 (encs_length _) (encs_length _) hcc (fun j hj => hsome j (by omega)) (fun j _ => hfr _) hvc (encs_one _) (encs_one _) vT T varr.size arr.size (by simp [World.shape?, hvb]) (by simp [World.shape?, hbk]) (by omega) (by simp [World.frozen?, hvb]) (by simp [World.frozen?, hvb])).mono ?_
              rintro e w' ⟨rfl, rfl⟩
              obtain ⟨a1, s1, s2, s3, s4, s5, s6, s7⟩ := setCells_facts (b := b) (T := T) (q := (0, 0)) ((encs zs).drop i) (o + 0 + (i + vs.length)) w.drew arr hbk
              obtain ⟨a2, t1, t2, t3, t4, t5, t6, t7⟩ := setCells_facts (b := b) (T := T) (q := (0, 0)) (encs vs) (o + 0 + i) (w.drew.setCells b (o + 0 + (i + vs.length)) ((encs zs).drop i)) a1 s2
              have hdl : ((encs zs).drop i).length = zs.length - i := by rw [List.length_drop, encs_length]
              have g1 : ∀ j, j < zs.length - i → (w.drew.setCells b (o + 0 + (i + vs.length)) ((encs zs).drop i)).cell? ⟨b, o + 0 + (i + vs.length) + j, none⟩ = some (.int .i64 (zs.getD (i + j) 0)) := fun j hj => by
                rw [World.cell?_setCells_in b _ _ _ (fun k hk => by
                  rw [drew_cell, Nat.add_assoc]
                  exact hsome _ (by omega)) j (by omega)]
                simp [encs, List.getD, show i + j < zs.length by omega]
              have := fin_in (w' := (w.drew.setCells b (o + 0 + (i + vs.length)) ((encs zs).drop i)).setCells b (o + 0 + i) (encs vs)) (ys := ys) (cap := cap) H hb r1 hbk (by omega) (by omega) (hmx _ hc2) (t1.trans s1) t2 (fun k hk => (t3 k hk).trans (s3 k hk)) (t4.trans s4) (t5.trans s5) (t6.trans s6) (t7.trans s7) (fun j hj => ?_)
              · rw [hyl] at this
                exact ⟨_, ρ, rfl, this.1, this.2.1, this.2.2⟩
              · rw [hyl] at hj
                rw [hyg j hj]
                by_cases c1 : j < i
                · rw [if_pos c1, World.cell?_setCells_out _ _ _ _ _ (fun _ _ => .inl (show o + j < o + 0 + i by omega)), World.cell?_setCells_out _ _ _ _ _ (fun _ _ => .inl (show o + j < o + 0 + (i + vs.length) by omega))]
                  exact hzc j (by omega)
                · rw [if_neg c1]
                  by_cases c2 : j < i + vs.length
                  · rw [if_pos c2]
                    have := World.cell?_setCells_in b (encs vs) (o + 0 + i) (w.drew.setCells b (o + 0 + (i + vs.length)) ((encs zs).drop i)) (fun k hk => by
                      rw [encs_length] at hk
                      rw [World.cell?_setCells_out _ _ _ _ _ (fun _ _ => .inl (show o + 0 + i + k < o + 0 + (i + vs.length) by omega)), drew_cell, Nat.add_assoc]
                      exact hsome _ (by omega)) (j - i) (by rw [encs_length]; omega)
                    rw [encs_at, show o + 0 + i + (j - i) = o + j by omega] at this
                    exact this
                  · rw [if_neg c2, World.cell?_setCells_out _ _ _ _ _ (fun _ _ => .inr (show o + 0 + i + (encs vs).length ≤ o + j by rw [encs_length]; omega))]
                    have := g1 (j - (i + vs.length)) (by omega)
                    rw [show o + 0 + (i + vs.length) + (j - (i + vs.length)) = o + j by omega, show i + (j - (i + vs.length)) = j - vs.length by omega] at this
                    exact this
            · obtain rfl : i = zs.length := by omega
              refine (Any2.slices_Insert_int_end_room insL b (o + 0) zs.length cap vb (vo + 0) vs.length cv (encs vs) w hm hroom hc2 (encs_length _) (fun j hj => by rw [Nat.add_assoc]; exact hsome _ (by omega)) (fun j _ => hfr _) hvc (encs_one _)).mono ?_
              rintro e w' ⟨rfl, rfl⟩
              obtain ⟨a1, s1, s2, s3, s4, s5, s6, s7⟩ := setCells_facts (b := b) (T := T) (q := (0, 0)) (encs vs) (o + 0 + zs.length) w arr hbk
              have := fin_in (w' := w.setCells b (o + 0 + zs.length) (encs vs)) (ys := ys) (cap := cap) H hb r1 hbk (by omega) (by omega) (hmx _ hc2) s1 s2 s3 s4 s5 s6 s7 (fun j hj => ?_)
              · rw [hyl] at this
                exact ⟨_, ρ, rfl, this.1, this.2.1, this.2.2⟩
              · rw [hyl] at hj
                rw [hyg j hj]
                by_cases c1 : j < zs.length
                · rw [if_pos c1, World.cell?_setCells_out _ _ _ _ _ (fun _ _ => .inl (show o + j < o + 0 + zs.length by omega))]
                  exact hzc j c1
                · rw [if_neg c1, if_pos (by omega)]
                  have := World.cell?_setCells_in b (encs vs) (o + 0 + zs.length) w (fun k hk => by
                    rw [encs_length] at hk
                    rw [Nat.add_assoc]
                    exact hsome _ (by omega)) (j - zs.length) (by rw [encs_length]; omega)
                  rw [encs_at, show o + 0 + zs.length + (j - zs.length) = o + j by omega] at this
                  exact this
          · by_cases hin : i < zs.length
            · refine (Any2.slices_Insert_int_grow insL b (o + 0) zs.length cap i vb (vo + 0) vs.length cv (encs zs) (encs vs) w hin hm hc1 (by omega) (by omega) (encs_length _) (encs_length _) hcc hvc (encs_one _) (encs_one _)).mono ?_
              rintro e w' ⟨rfl, rfl⟩
              have hG := grownCap_ge w (zs.length + vs.length) cap (insRen.t 3)
              have hG2 := grownCap_le_maxLen w (zs.length + vs.length) cap (insRen.t 3) (by unfold maxLen; omega)
              generalize grownCap w (zs.length + vs.length) cap (insRen.t 3) = G at *
              generalize hA : (((encs zs).take i).toArray ++ Builtin.zeroCells (Value.int .i64 0).cells (zs.length + vs.length - i) ++ Builtin.zeroCells (Value.int .i64 0).cells (G - (zs.length + vs.length)) : Array Value) = A0
              have hAs : i + (zs.length + vs.length - i) ≤ A0.size := by
                rw [← hA]
                simp only [Array.size_append, List.size_toArray, List.length_take, encs_length, zero_cells_size]
                omega
              have hAg : ∀ j, j < i → A0[j]? = some (.int .i64 (zs.getD j 0)) := fun j hj => by
                rw [← hA]
                rw [Array.append_assoc, Array.getElem?_append_left (by simp [encs_length]; omega)]
                simp [encs, hj, List.getD, show j < zs.length by omega]
              have hW : (w.alloc (.cells A0 (insRen.t 3))).drew.heap[w.heap.size]? = some (.cells A0 (insRen.t 3) (0, 0)) := by show (w.heap.push _)[w.heap.size]? = _; simp
              obtain ⟨a1, s1, s2, s3, s4, s5, s6, s7⟩ := setCells_facts (b := w.heap.size) (T := insRen.t 3) (q := (0, 0)) (encs vs) i (w.alloc (.cells A0 (insRen.t 3))).drew A0 hW
              obtain ⟨a2, t1, t2, t3, t4, t5, t6, t7⟩ := setCells_facts (b := w.heap.size) (T := insRen.t 3) (q := (0, 0)) ((encs zs).drop i) (i + vs.length) ((w.alloc (.cells A0 (insRen.t 3))).drew.setCells w.heap.size i (encs vs)).drew a1 s2
              have hsz2 : (w.alloc (.cells A0 (insRen.t 3))).drew.heap.size = w.heap.size + 1 := by show (w.heap.push _).size = _; simp
              have hdl : ((encs zs).drop i).length = zs.length - i := by rw [List.length_drop, encs_length]
              have hlive : ∀ (ws : World) (aa : Array Value), ws.heap[w.heap.size]? = some (.cells aa (insRen.t 3) (0, 0)) → aa.size = A0.size → ∀ j, j < zs.length + vs.length → (ws.cell? ⟨w.heap.size, j, none⟩).isSome = true := fun ws aa h1 h2 j hj => by
                rw [cell_live h1 (by omega)]; rfl
              have := fin_new (w' := ((w.alloc (.cells A0 (insRen.t 3))).drew.setCells w.heap.size i (encs vs)).drew.setCells w.heap.size (i + vs.length) ((encs zs).drop i)) (ys := ys) (cap := G) H tk (by omega) hG2 ⟨t5.trans s5, t6.trans s6, t7.trans s7, by rw [t4]; show w.heap.size ≤ ((w.alloc (.cells A0 (insRen.t 3))).drew.setCells w.heap.size i (encs vs)).heap.size; rw [s4, hsz2]; omega, fun k hk => by
                rw [t3 k (by omega)]
                show ((w.alloc (.cells A0 (insRen.t 3))).drew.setCells w.heap.size i (encs vs)).heap[k]? = _
                rw [s3 k (by omega)]
                show (w.heap.push _)[k]? = _
                rw [Array.getElem?_push, if_neg (by omega)]⟩ (by
                rw [t4]; show w.heap.size < ((w.alloc (.cells A0 (insRen.t 3))).drew.setCells w.heap.size i (encs vs)).heap.size; rw [s4, hsz2]; omega) (fun j hj => ?_)
              · rw [hyl] at this
                exact ⟨_, ρ, rfl, this.1, this.2.1, this.2.2⟩
              · rw [hyl] at hj
                rw [hyg j hj]
                by_cases c1 : j < i
                · rw [if_pos c1, World.cell?_setCells_out _ _ _ _ _ (fun _ _ => .inl (show j < i + vs.length by omega)), drew_cell, World.cell?_setCells_out _ _ _ _ _ (fun _ _ => .inl (show j < i from c1))]
                  show (w.alloc (.cells A0 (insRen.t 3))).drew.cell? _ = _
                  unfold World.cell?
                  simp only [hW]
                  exact hAg j c1
                · rw [if_neg c1]
                  by_cases c2 : j < i + vs.length
                  · rw [if_pos c2, World.cell?_setCells_out _ _ _ _ _ (fun _ _ => .inl (show j < i + vs.length from c2)), drew_cell]
                    have := World.cell?_setCells_in w.heap.size (encs vs) i (w.alloc (.cells A0 (insRen.t 3))).drew (fun k hk => by
                      rw [encs_length] at hk
                      exact hlive _ A0 hW rfl _ (by omega)) (j - i) (by rw [encs_length]; omega)
                    rw [encs_at, show i + (j - i) = j by omega] at this
                    exact this
                  · rw [if_neg c2]
                    have := World.cell?_setCells_in w.heap.size ((encs zs).drop i) (i + vs.length) ((w.alloc (.cells A0 (insRen.t 3))).drew.setCells w.heap.size i (encs vs)).drew (fun k hk => by
                      rw [hdl] at hk
                      rw [drew_cell]
                      exact hlive _ a1 s2 s1 _ (by omega)) (j - (i + vs.length)) (by omega)
                    rw [show i + vs.length + (j - (i + vs.length)) = j by omega] at this
                    rw [this]
                    simp [encs, List.getD, show i + (j - (i + vs.length)) = j - vs.length by omega, show j - vs.length < zs.length by omega]
            · obtain rfl : i = zs.length := by omega
              refine (Any2.slices_Insert_int_end_grow insL (some ⟨b, o + 0, none⟩) zs.length cap vb (vo + 0) vs.length cv (encs zs) (encs vs) w hm hc1 (by omega) (by omega) (encs_length _) (encs_length _) (fun e => by cases e) (fun a ha j v hj => by
                cases ha; rw [Addr.add_lit]; exact hcc j v hj) hvc (encs_one _)).mono ?_
              rintro e w' ⟨rfl, rfl⟩
              have hG := grownCap_ge w (zs.length + vs.length) cap (insRen.t 3)
              have hG2 := grownCap_le_maxLen w (zs.length + vs.length) cap (insRen.t 3) (by unfold maxLen; omega)
              generalize grownCap w (zs.length + vs.length) cap (insRen.t 3) = G at *
              have := fin_new (w' := w.drew.alloc (.cells ((encs zs ++ encs vs).toArray ++ Builtin.zeroCells (Value.int .i64 0).cells (G - (zs.length + vs.length))) (insRen.t 3))) (ys := ys) (cap := G) H tk (by omega) hG2 (below_drew_alloc w _) (by rw [World.size_alloc]; exact Nat.lt_succ_self _) (fun j hj => ?_)
              · rw [hyl] at this
                exact ⟨_, ρ, rfl, this.1, this.2.1, this.2.2⟩
              · rw [hyl] at hj
                rw [hyg j hj]
                have hx : (encs zs ++ encs vs)[j]? = some (.int .i64 (if j < zs.length then zs.getD j 0 else if j < zs.length + vs.length then vs.getD (j - zs.length) 0 else zs.getD (j - vs.length) 0)) := by
                  by_cases c1 : j < zs.length
                  · rw [if_pos c1, List.getElem?_append_left (by rw [encs_length]; exact c1)]
                    simp [encs, List.getD, c1]
                  · rw [if_neg c1, if_pos hj, List.getElem?_append_right (by rw [encs_length]; omega), encs_length]
                    simp [encs, List.getD, show j - zs.length < vs.length by omega]
                have hlt : j < (encs zs ++ encs vs).toArray.size := by simp [encs_length]; omega
                have : ((encs zs ++ encs vs).toArray ++ Builtin.zeroCells (Value.int .i64 0).cells (G - (zs.length + vs.length)))[j]? = (encs zs ++ encs vs)[j]? := by
                  rw [Array.getElem?_append_left hlt]; simp
                rw [← hx, ← this]
                have hX : ∀ X, (w.drew.alloc X).heap[w.heap.size]? = some X := fun X => by show (w.heap.push _)[w.heap.size]? = _; simp
                simp only [World.cell?, hX]
                simp
end Go.Proofs.Ytojklacicjopkaa
