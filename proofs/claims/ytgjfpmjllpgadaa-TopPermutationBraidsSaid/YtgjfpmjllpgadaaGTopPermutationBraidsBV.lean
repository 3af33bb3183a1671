/- A range over slices.Backward in the abstract reading: a body that never leaves. No condition of its own. -/
import Derived.Test.YtgjfpmjllpgadaaGTopPermutationBraidsBI
import Derived.Test.YtgjfpmjllpgadaaGTopPermutationBraidsAV
import Derived.Test.YtgjfpmjllpgadaaGTopPermutationBraidsAY
set_option linter.unusedVariables false
set_option linter.unusedSimpArgs false
namespace Go.Proofs.Ytgjfpmjllpgadaa
open Go.RowKit Go.Shelf
attribute [local go_sem] Oper.semAt_some

/-- what comes in: index and value, the value with a property -/
abbrev Lt (Pr : Int → Prop) := { x : Int × Int // Pr x.2 }
def KpC (bs : List Nat) (W W' : World) : Prop := ∀ b ∈ bs, W'.heap[b]? = W.heap[b]?
theorem KpC.refl (bs : List Nat) (W : World) : KpC bs W W := fun _ _ => rfl
theorem KpC.trans {bs : List Nat} {A B C : World} (h : KpC bs A B) (k : KpC bs B C) : KpC bs A C := fun b hb => (k b hb).trans (h b hb)
theorem kpc_b {bs : List Nat} {w : World} (h : ∀ b ∈ bs, b < w.heap.size) (W : World) (l : Nat) (o o' : Obj) (hl : w.heap.size ≤ l) (_ : W.heap[l]? = some o) (_ : o.isCells = false) (_ : o.isWalk = false) : KpC bs W (W.putObj l o') :=
  fun b hb => World.putObj_heap_other (by have := h b hb; omega)

set_option maxRecDepth 100000 in
set_option maxHeartbeats 2000000 in
theorem backC_in {Pr : Int → Prop} (F : Fence) (n : Nat) (h7 : F.fn 140) (hro : F.round = none) (hn : 1 ≤ n) (l Bs ob b off cap : Nat) (zs : List Int) (hreach : zs.length * 8 ≤ 140737488351232) (hp : ∀ k, k < zs.length → Pr (zs[k]?.getD 0)) (J Jx : List (Lt Pr) → World → Prop)
    (hY : ∀ pre x W, J pre W → pre.length < zs.length → YieldAt F (n - 1) Try.prog l #[.int .i64 x.1.1, .int .i64 x.1.2] W fun e W' =>
      (e = .returned (.bool true) ∧ J (pre ++ [x]) W' ∧ KpC [Bs, b] W W') ∨ (e = .returned (.bool false) ∧ Jx (pre ++ [x]) W'))
    (W : World) (hBs : W.cell? ⟨Bs, ob, none⟩ = some (.slice (some ⟨b, off, none⟩) zs.length cap)) (hc : ∀ j, j < zs.length → W.cell? ⟨b, off + j, none⟩ = some (.int .i64 (zs[j]?.getD 0))) (h0 : J [] W) :
    CallsIn F n Try.prog 140 #[.func (.yield l) #[] #[], .pointer (some ⟨Bs, ob, none⟩)] W fun e W' => (∃ v, e = .returned v) ∧
      ((∃ ys : List (Lt Pr), ys.map (·.1) = upto (bk zs) zs.length ∧ J ys W') ∨ (∃ pre : List (Lt Pr), (∃ k, k ≤ zs.length ∧ pre.map (·.1) = upto (bk zs) k) ∧ Jx pre W')) := by
  refine callsIn_of_wp Try.func140 rfl h7 ?_ hro
  simp only [Try.ntmps140, List.size_toArray, List.length_cons, List.length_nil, Nat.reduceAdd, Nat.reduceSub, Array.replicate_succ, Array.replicate_zero, List.push_toArray, List.append_toArray, List.nil_append, List.cons_append]
  gi_wp2
  gi_loopw [3] (fun i wr => ∃ (k : Nat) (pre : List (Lt Pr)), k ≤ zs.length ∧ i = .int .i64 ((zs.length : Int) - 1 - k) ∧ pre.map (·.1) = upto (bk zs) k ∧ J pre wr ∧ KpC [Bs, b] W wr)
    (fun i _ => (intOf i + 1).toNat)
  case atStart => exact ⟨0, [], Nat.zero_le _, by simp, rfl, h0, KpC.refl _ _⟩
  case round =>
    obtain ⟨k, pre, hk, rfl, hpre, hJs, hnx⟩ := hrel
    have hBx : wr.cell? ⟨Bs, ob, none⟩ = _ := (World.cell?_of_block (w := W) (hnx Bs (by simp))).trans hBs
    by_cases hlt : k < zs.length
    · obtain ⟨m, hm⟩ : ∃ m : Nat, zs.length = k + 1 + m := ⟨zs.length - k - 1, by omega⟩
      have e1 : (zs.length : Int) - 1 - k = (m : Int) := by omega
      have hml : m < zs.length := by omega
      have hcx := (World.cell?_of_block (w := W) (a := ⟨b, off + m, none⟩) (hnx b (by simp))).trans (hc m hml)
      have hpv := hp m hml
      have hbk : bk zs k = ((m : Int), zs[m]?.getD 0) := by unfold bk; rw [e1, show zs.length - 1 - k = m by omega]
      obtain ⟨v, hv⟩ : ∃ v, v = zs[m]?.getD 0 := ⟨_, rfl⟩
      rw [← hv] at hcx hpv hbk
      have hpl : pre.length < zs.length := by
        have := congrArg List.length hpre
        rw [List.length_map, upto_length] at this
        omega
      obtain ⟨fn, tmps, assign, body, hy, hR⟩ := hY pre ⟨((m : Int), v), hpv⟩ wr hJs hpl
      dsimp only at hy
      have hkm := Lib.hid hm
      clear hm hv
      rw [e1]
      gi_wp2
      refine hR.mono ?_
      rintro e W3 (⟨rfl, hJ3, hk3⟩ | ⟨rfl, hJx3⟩)
      · gi_wp2
        go_roundw
        case rel => exact ⟨k + 1, pre ++ [⟨((m : Int), v), hpv⟩], by omega, by have := hkm.out; first | (simp; done) | (simp; omega), by rw [upto_succ, hbk, List.map_append, hpre]; rfl, hJ3, hnx.trans hk3⟩
        case measure => first | (simp [intOf]; done) | (simp [intOf]; omega)
      · gi_wp2
        refine bodyPost_ret (results_none rfl _ _ _) rfl ?_
        exact ⟨⟨_, rfl⟩, .inr ⟨_, ⟨k + 1, by omega, by rw [upto_succ, hbk, List.map_append, hpre]; rfl⟩, hJx3⟩⟩
    · obtain rfl : k = zs.length := by omega
      have e1 : (zs.length : Int) - 1 - zs.length = -1 := by omega
      rw [e1]
      gi_wp2
      go_end0
      exact ⟨⟨_, rfl⟩, .inl ⟨pre, hpre, hJs⟩⟩
set_option maxRecDepth 100000 in
set_option maxHeartbeats 1000000 in
theorem backC_nil {α : Type} (F : Fence) (n : Nat) (h7 : F.fn 140) (hro : F.round = none) (l Bs ob cap : Nat) (A : Option Addr) (J : List α → World → Prop) (W : World) (hBs : W.cell? ⟨Bs, ob, none⟩ = some (.slice A 0 cap)) (h0 : J [] W) :
    CallsIn F n Try.prog 140 #[.func (.yield l) #[] #[], .pointer (some ⟨Bs, ob, none⟩)] W fun e W' => (∃ v, e = .returned v) ∧ J [] W' := by
  refine callsIn_of_wp Try.func140 rfl h7 ?_ hro
  simp only [Try.ntmps140, List.size_toArray, List.length_cons, List.length_nil, Nat.reduceAdd, Nat.reduceSub, Array.replicate_succ, Array.replicate_zero, List.push_toArray, List.append_toArray, List.nil_append, List.cons_append]
  gi_wp2
  gi_loopw [3] (fun i wr => i = .int .i64 (-1) ∧ J [] wr) (fun _ _ => 0)
  case atStart => exact ⟨by simp, h0⟩
  case round =>
    obtain ⟨rfl, hJs⟩ := hrel
    gi_wp2
    go_end0
    exact ⟨⟨_, rfl⟩, hJs⟩
theorem backC_stops {Pr : Int → Prop} (F : Fence) (n : Nat) (h8 : F.fn 140) (hro : F.round = none) (hn : 1 ≤ n) (Bs ob b cap : Nat) (A : Option Addr) (zs : List Int) (hreach : zs.length * 8 ≤ 140737488351232) (hp : ∀ k, k < zs.length → Pr (zs[k]?.getD 0)) (w : World) (hBs : Bs < w.heap.size) (hb : b < w.heap.size)
    (hc : w.cell? ⟨Bs, ob, none⟩ = some (.slice A zs.length cap)) (hI : zs = [] ∨ ∃ off, A = some ⟨b, off, none⟩ ∧ ∀ j, j < zs.length → w.cell? ⟨b, off + j, none⟩ = some (.int .i64 (zs[j]?.getD 0))) :
    SeqStopsK F n Try.prog 140 #[.pointer (some ⟨Bs, ob, none⟩)] (fun x : Lt Pr => #[Value.int .i64 x.1.1, Value.int .i64 x.1.2]) (KpC [Bs, b]) (fun ys => ys.map (·.1) = upto (bk zs) zs.length)
      (fun pre => ∃ k, k ≤ zs.length ∧ pre.map (·.1) = upto (bk zs) k) zs.length w := fun l J Jx W hW _ _ hY h0 => by
  have hc' := (hW.cell (p := ⟨Bs, ob, none⟩) hBs).trans hc
  rcases hI with rfl | ⟨off, rfl, hcs⟩
  · exact (backC_nil F n h8 hro l Bs ob cap A J W hc' h0).mono fun e W' ⟨he, hj⟩ => ⟨he, .inl ⟨[], rfl, hj⟩⟩
  · exact backC_in F n h8 hro hn l Bs ob b off cap zs hreach hp J Jx hY W hc' (fun j hj => (hW.cell (p := ⟨b, off + j, none⟩) hb).trans (hcs j hj)) h0

/-! ### what turns no cells turns nothing that is read -/
def PV.nf : PV → Bool
  | .fmap _ | .obj .. | .siz _ | .mref _ | .itr _ => false
  | .lst _ _ _ cs => nfL cs
  | .lptr cs => nfL cs
  | .agg cs => nfL cs
  | .tup cs => nfL cs
  | .clo _ cs => nfL cs
  | .junk | .sc _ | .anyB | .ref .. | .ptr .. => true
where nfL : List PV → Bool
  | [] => true
  | c :: cs => PV.nf c && nfL cs
theorem nfL_mem : ∀ {cs : List PV}, PV.nf.nfL cs = true ↔ ∀ c ∈ cs, c.nf = true
  | [] => by simp [PV.nf.nfL]
  | c :: cs => by simp [PV.nf.nfL, nfL_mem (cs := cs)]
theorem nfL_get {cs : List PV} (h : PV.nf.nfL cs = true) (i : Nat) (hi : i < cs.length) : (cs.getD i .junk).nf = true := by
  rw [show cs.getD i .junk = cs[i] by simp [List.getD, hi]]
  exact nfL_mem.1 h _ (List.getElem_mem hi)
theorem V.grown {ρ : Pl} {Z : Nat → Prop} {W W' : World} {row : Option Nat} {pv : PV} {u : Value} (hv : V ρ Z W pv u) (hg : W.grownBy W' row) (hr : ∀ r, row = some r → ∃ o : Obj, W.heap[r]? = some o ∧ o.isCells = false) : pv.nf = true → V ρ Z W' pv u := by
  induction hv with
  | junk v => intro _; exact .junk v
  | sc v => intro _; exact .sc v
  | anyb b => intro _; exact .anyb b
  | lst clip sz n cap cs A f hn hc hm hl ha hv ih =>
    intro h
    refine .lst _ _ _ _ _ _ f hn hc hm hl (fun hne => ?_) (fun i hi => ih i hi (nfL_get (by simpa [PV.nf] using h) i hi))
    obtain ⟨b, o, e, hz, hb, hcell⟩ := ha hne
    exact ⟨b, o, e, hz, Nat.lt_of_lt_of_le hb hg.size, fun i hi => cell_kept (hcell i hi) hg hr⟩
  | ref t off sz n cap A hn hm hb =>
    intro _
    refine .ref t off sz n cap A hn hm (fun hc => ?_)
    obtain ⟨b, o, arr, T, h1, h2, h3, h4⟩ := hb hc
    exact ⟨b, o, arr, T, h1, h2, by rw [grownBy_keeps_cells hg hr h3 rfl]; exact h3, h4⟩
  | ptr t off b o hr' => intro _; exact .ptr t off b o hr'
  | lptr cs b o f hz hb hc hv ih => intro h; exact .lptr _ _ _ f hz (Nat.lt_of_lt_of_le hb hg.size) (fun i hi => cell_kept (hc i hi) hg hr) (fun i hi => ih i hi (nfL_get (by simpa [PV.nf] using h) i hi))
  | agg cs vs hl hv ih => intro h; exact .agg _ _ hl (fun i hi => ih i hi (nfL_get (by simpa [PV.nf] using h) i hi))
  | tup cs vs hl hv ih => intro h; exact .tup _ _ hl (fun i hi => ih i hi (nfL_get (by simpa [PV.nf] using h) i hi))
  | clo f cs vs hl hv ih => intro h; exact .clo _ _ _ hl (fun i hi => ih i hi (nfL_get (by simpa [PV.nf] using h) i hi))
  | fmap => intro h; simp [PV.nf] at h
  | mref => intro h; simp [PV.nf] at h
  | itr => intro h; simp [PV.nf] at h
  | obj => intro h; simp [PV.nf] at h
  | siz => intro h; simp [PV.nf] at h
/-- no maps in it -/
structure HP.Nf (h : HP) : Prop where
  blk : ∀ t cs, h.blk t = some cs → PV.nf.nfL cs = true
  sp : ∀ t, h.sp t = none
abbrev E0 : PV → Value → Prop := fun _ _ => False
theorem Rel.grown {w0 : World} {Z0 : Nat → Prop} {ρ : Pl} {n : Nat} {s : AS} {a : Act} {W W' : World} {row : Option Nat} (R : Rel E0 w0 Z0 ρ n s a W) (ht : ∀ t, (s.tmps t).nf = true) (hh : s.hp.Nf) (hg : W.grownBy W' row)
    (hr : ∀ r, row = some r → w0.heap.size ≤ r ∧ ∃ o : Obj, W.heap[r]? = some o ∧ o.isCells = false) : Rel E0 w0 Z0 ρ n s a W' := by
  have hr' := fun r e => (hr r e).2
  refine ⟨R.defers, R.size, fun t => (R.tmps t).grown hg hr' (ht t), ⟨?_, R.heap.z0, fun t cs h => ?_, R.heap.inj, R.heap.free, fun t c h => ?_, R.heap.sinj, R.heap.wfree⟩, fun _ _ h => h.elim⟩
  · exact R.heap.below.grown hg R.heap.below.size (fun k e => (hr k e).1)
  · rcases R.heap.live t cs h with hn | ⟨b, o, arr, T, h1, h2, h3, h4, h5⟩
    · exact .inl hn
    · exact .inr ⟨b, o, arr, T, h1, h2, by rw [grownBy_keeps_cells hg hr' h3 rfl]; exact h3, h4, fun i hi => (h5 i hi).grown hg hr' (nfL_get (hh.blk t cs h) i hi)⟩
  · rw [hh.sp t] at h; cases h

/-- THE RULE. The body is walked for every word that may have come, and one letter more; it never leaves. -/
theorem range_back {M : Hn} {Pr : Int → Prop} {w0 : World} {Z0 : Nat → Prop} {ρ : Pl} {n : Nat} {s : AS} {a : Act} {w : World} {gs : Nat} {ps : Array Tmp} {assign body : Code} {Q : Exit → Act → World → Prop} {zs : List Int}
    (R : Rel E0 w0 Z0 ρ n s a w) (hg : s.tmps gs = .clo 140 [.lptr [pli zs]]) (hps : ps.size = 2) (ht : ∀ t, (s.tmps t).nf = true) (hreach : zs.length ≤ 1000000) (hp : ∀ x ∈ zs, Pr x)
    (I : List Int → HP → Prop) (h0 : I [] s.hp) (hI : ∀ vs h, I vs h → h.Nf) (a₁ : Int × Int → Act) (u : Int × Int → Nat → PV)
    (ha : ∀ x W ρ' h, Rel E0 w0 Z0 ρ' n ⟨s.tmps, h⟩ a W → Rel E0 w0 Z0 ρ' n ⟨u x, h⟩ (a₁ x) W)
    (hassign : ∀ (l : Nat) (x : Int × Int) (W : World) (K : Act → World → Prop), K (a₁ x) W →
      assign.wpIn (Fence.wide.inRound l) 7 Try.prog (Exit.then K (fun _ _ _ => False)) { tmps := (ps.zip #[Value.int .i64 x.1, Value.int .i64 x.2]).foldl (fun t (p, v) => t.setIfInBounds p v) a.tmps, defers := [] } W)
    (hcode : codeOk M n body = true)
    (hbody : ∀ vs x h, (∀ y ∈ vs, Pr y) → Pr x.2 → vs.length < zs.length → I vs h → CW Try.prog TT M n body ⟨u x, h⟩ (fun e s' => e = .normal ∧ I (vs ++ [x.2]) s'.hp))
    (hdone : ∀ D W ρ' h, Rel E0 w0 Z0 ρ' n ⟨s.tmps, h⟩ a W → I zs.reverse h → W.heap[D]? = some (.deferred (some [])) → w0.heap.size ≤ D → Q .normal { a with defers := { target := .collected D, args := #[] } :: a.defers } W) :
    (Code.rangeFunc (.tmp gs) ps assign body).wpIn Fence.wide 9 Try.prog Q a w := by
  have hvg := R.tmps gs
  rw [hg] at hvg
  obtain ⟨vs', e1, e2, e3⟩ := hvg.clo_inv
  obtain ⟨Bs, ob, f, e4, hzB, hlt, hcl, hvl⟩ := (e3 0 (by simp)).lptr_inv
  obtain ⟨cap, A, g, e5, g1, g2, g3, g4, g5, g6⟩ := (hvl 0 (by simp)).lst_inv
  have hcB := hcl 0 (by simp)
  rw [Nat.add_zero, e5] at hcB
  have hvs : vs' = #[.pointer (some ⟨Bs, ob, none⟩)] := by
    have h1 : vs'.size = 1 := by simpa using e2.symm
    apply Array.ext
    · simpa using h1
    · intro i h2 h3
      obtain rfl : i = 0 := by omega
      rw [Array.getD_eq_getD_getElem?, Array.getElem?_eq_getElem (by omega)] at e4
      simpa using e4
  subst hvs
  have hgi : ∀ j, j < zs.length → g j = .int .i64 (zs[j]?.getD 0) := fun j hj => by
    have := g6 j (by simpa using hj)
    rw [getD_of (ints_at hj)] at this
    have := this.sc_inv
    rw [this]; simp [List.getD]
  -- the list's own block
  obtain ⟨b, hzb, hbl, hIz⟩ : ∃ b, (∀ (ρ' : Pl) (h : HP) (W : World), Rel E0 w0 Z0 ρ' n ⟨s.tmps, h⟩ a W → W.heap[Bs]? = w.heap[Bs]? → ¬ Zof Z0 ρ' h b ∧ ¬ Zof Z0 ρ' h Bs) ∧ b < w.heap.size ∧
      (zs = [] ∨ ∃ off, A = some ⟨b, off, none⟩ ∧ ∀ j, j < zs.length → w.cell? ⟨b, off + j, none⟩ = some (.int .i64 (zs[j]?.getD 0))) := by
    have hzBs : ∀ (ρ' : Pl) (h : HP) (W : World), Rel E0 w0 Z0 ρ' n ⟨s.tmps, h⟩ a W → W.heap[Bs]? = w.heap[Bs]? → ¬ Zof Z0 ρ' h Bs ∧ V ρ' (Zof Z0 ρ' h) W (pli zs) (.slice A zs.length cap) := fun ρ' h W R' hk => by
      have hv2 := R'.tmps gs
      simp only [hg] at hv2
      obtain ⟨vs2, k1, k2, k3⟩ := hv2.clo_inv
      rw [e1] at k1
      simp only [Value.func.injEq, true_and] at k1
      subst k1
      obtain ⟨B2, ob2, f2, k4, k5, k6, k7, k8⟩ := (k3 0 (by simp)).lptr_inv
      simp at k4
      obtain ⟨rfl, rfl⟩ := k4
      refine ⟨k5, ?_⟩
      have k9 := k7 0 (by simp)
      rw [Nat.add_zero, World.cell?_of_block (w := w) (a := ⟨Bs, ob, none⟩) hk, hcB] at k9
      have e9 : Value.slice A zs.length cap = f2 0 := by first | exact Option.some.inj k9 | exact (Option.some.inj k9).symm
      rw [e9]
      exact k8 0 (by simp)
    by_cases hz : zs = []
    · exact ⟨Bs, fun ρ' h W R' hk => ⟨(hzBs ρ' h W R' hk).1, (hzBs ρ' h W R' hk).1⟩, hlt, .inl hz⟩
    · obtain ⟨b, o, rfl, q1, q2, q3⟩ := g5 (by intro e; exact hz (List.eq_nil_of_length_eq_zero (by have := congrArg List.length e; simpa using this)))
      refine ⟨b, fun ρ' h W R' hk => ⟨?_, (hzBs ρ' h W R' hk).1⟩, q2, .inr ⟨o, rfl, fun j hj => by rw [← hgi j hj]; exact q3 j (by simpa using hj)⟩⟩
      obtain ⟨cap2, A2, f2, k1, k2, k3, k4, k5, k6, k7⟩ := (hzBs ρ' h W R' hk).2.lst_inv
      obtain ⟨b2, o2, k8, k9, k10⟩ := k6 (by intro e; exact hz (List.eq_nil_of_length_eq_zero (by have := congrArg List.length e; simpa using this)))
      simp only [Value.slice.injEq, true_and] at k1
      rw [← k1.1] at k8
      simp at k8
      rw [k8.1]; exact k9
  have hbw : w0.heap.size ≤ w.heap.size := R.heap.below.size
  refine wpIn_rangeFunc_ownG (F := Fence.wide) (n := 9) rfl (by omega) (gf := 140) (lb := #[.pointer (some ⟨Bs, ob, none⟩)]) e1 trivial (enters_of Try.func140 (by kernel_rfl) rfl)
    (backC_stops (Pr := Pr) Fence.wide 8 trivial rfl (by omega) Bs ob b cap A zs (by omega) (fun k hk => by rw [show zs[k]?.getD 0 = zs[k] by simp [hk]]; exact hp _ (List.getElem_mem hk)) w hlt hbl hcB hIz) KpC.trans (kpc_b (by simp; exact ⟨hlt, hbl⟩)) (Below.refl _ _) (fun _ => by rw [hps]; rfl)
    (fun pre W => (∃ ρ' h, Rel E0 w0 Z0 ρ' n ⟨s.tmps, h⟩ a W ∧ I (pre.map (·.1.2)) h) ∧ KpC [Bs, b] w W)
    (fun _ _ _ => False) ?own (fun _ _ _ _ _ hs _ _ => hs) ⟨⟨ρ, s.hp, R, h0⟩, KpC.refl _ _⟩ (fun x => a₁ x.1) ?assign ?body ?done ?stop
  case own =>
    rintro pre W W' row ⟨⟨ρ', h, R', hi⟩, hk⟩ hgr hr
    refine ⟨⟨ρ', h, R'.grown ht (hI _ _ hi) hgr (fun r e => ⟨Nat.le_trans hbw (hr r e).1, (hr r e).2⟩), hi⟩, fun bb hbb => ?_⟩
    have hlw : bb < w.heap.size := by
      simp only [List.mem_cons, List.not_mem_nil, or_false] at hbb
      rcases hbb with rfl | rfl
      · exact hlt
      · exact hbl
    have hsome := hk bb hbb
    rw [Array.getElem?_eq_getElem hlw] at hsome
    rw [hgr.block bb (lt_of_heap hsome) (fun e => by have := (hr bb e.symm).1; omega)]
    exact hk bb hbb
  case assign =>
    intro l x W K hK
    exact hassign l x.1 W K hK
  case body =>
    rintro l pre x W ⟨⟨ρ', h, R', hi⟩, hk⟩ hlen
    have R1 := ha x.1 W ρ' h R'
    have R2 : Rel (fun p u => V ρ' (Zof Z0 ρ' h) W p u) w0 Z0 ρ' n ⟨u x.1, h⟩ (a₁ x.1) W := ⟨R1.defers, R1.size, R1.tmps, R1.heap, fun _ _ h => h⟩
    have hA := (hbody (pre.map (·.1.2)) x.1 h (fun y hy => by obtain ⟨z, _, rfl⟩ := List.mem_map.1 hy; exact z.2) x.2 (by simpa using hlen) hi).out tok mixed hcode
    refine wpIn_mono (hA _ w0 Z0 ρ' (a₁ x.1) W R2 (Fence.wide.inRound l) (okf_round l) (9 - 1 - 1)) ?_
    rintro e a' W' ⟨ρ2, s2, R3, rfl, hI2⟩
    have up := R3.mem
    have keep : ∀ (k : Nat) (o : Obj), ¬ Zof Z0 ρ' h k → W.heap[k]? = some o → W'.heap[k]? = some o := fun k o hz ho => by
      have := up (.obj k o) (.bool false) (.obj k o hz (lt_of_heap ho) ho)
      generalize hq : PV.obj k o = p at this
      cases this <;> cases hq
      assumption
    have hsz : W.heap.size ≤ W'.heap.size := by
      have := up (.siz W.heap.size) (.bool false) (.siz _ (Nat.le_refl _))
      generalize hq : PV.siz W.heap.size = p at this
      cases this <;> cases hq
      assumption
    obtain ⟨z1, z2⟩ := hzb ρ' h W R' (hk Bs (by simp))
    have hkp : KpC [Bs, b] W W' := fun bb hbb => by
      have hlw : bb < w.heap.size ∧ ¬ Zof Z0 ρ' h bb := by
        simp only [List.mem_cons, List.not_mem_nil, or_false] at hbb
        rcases hbb with rfl | rfl
        · exact ⟨hlt, z2⟩
        · exact ⟨hbl, z1⟩
      have hsome := hk bb hbb
      rw [Array.getElem?_eq_getElem hlw.1] at hsome
      rw [hsome]
      exact keep bb _ hlw.2 hsome
    refine ⟨⟨hsz, fun k o hB ho hc => keep k o (fun hz => ?_) ho⟩, hkp, ⟨ρ2, s2.hp, ⟨R'.defers, R'.size, fun t => up _ _ (R'.tmps t), R3.heap, fun _ _ h => h.elim⟩, by simpa using hI2⟩, hk.trans hkp⟩
    rcases hz with hz | ⟨t, cs, o2, h1, h2⟩ | ⟨t, c, h1, h2⟩
    · have := R'.heap.z0 k hz; omega
    · rcases R'.heap.live t cs h1 with ⟨_, e⟩ | ⟨b', o', arr, T, e, _, hh, _⟩
      · rw [h2] at e; cases e
      · rw [h2] at e; cases e
        rw [ho] at hh; cases hh
        cases hc
    · rw [(hI _ _ hi).sp t] at h1; cases h1
  case done =>
    rintro D ys W hD hS ⟨⟨ρ', h, R', hi⟩, hk⟩ hKD
    refine hdone D W ρ' h R' ?_ hKD (by omega)
    have : ys.map (·.1.2) = zs.reverse := by
      have h1 : ys.map (·.1.2) = (ys.map (·.1)).map (·.2) := by simp [List.map_map, Function.comp_def]
      rw [h1, hS]
      apply List.ext_getElem
      · simp [upto]
      · intro i h2 h3
        simp [upto, bk] at h2 ⊢
        rw [List.getElem?_eq_getElem (by omega)]
        rfl
    rw [← this]; exact hi
  case stop =>
    rintro D c pre W _ _ ⟨⟩
end Go.Proofs.Ytgjfpmjllpgadaa
