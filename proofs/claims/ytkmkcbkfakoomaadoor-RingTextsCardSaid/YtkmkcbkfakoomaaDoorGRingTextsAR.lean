/- Facts and contracts that the claim uses. No condition of its own. -/
import Derived.Test.YtkmkcbkfakoomaaDoorGRingTextsAQ
set_option linter.unusedVariables false
set_option linter.unusedSimpArgs false
namespace Go.Proofs.YtkmkcbkfakoomaaDoor
open Go.RowKit
def GX (P : Program) (T : TypeId → TI) (M : Hn) (c : Cls) (ops : Array Oper) (o : Oper) (s : AS) (k : PV → HP → Prop) : Prop :=
  match o.guard with
  | none => DX P T M c (evA s.tmps) o s.hp k
  | some (j, want) => match (ops[j]?).bind (·.dst) with
    | some t => scX (s.tmps t) fun v => match v with
      | .bool b => (b = want → DX P T M c (evA s.tmps) o s.hp k) ∧ (b ≠ want → k (.sc undef) s.hp)
      | _ => k (.sc undef) s.hp
    | none => False
def AX (P : Program) (T : TypeId → TI) (M : Hn) (cl : Oper → Cls) (ops : Array Oper) : List Oper → AS → (AS → Prop) → Prop
  | [], s, K => K s
  | o :: l, s, K => GX P T M (cl o) ops o s fun v h' => AX P T M cl ops l ⟨putA s.tmps o.dst v, h'⟩ K
def dstOk (n : Nat) (ops : List Oper) : Bool := ops.all fun o => match o.dst with
  | some d => Nat.blt d n
  | none => true
theorem AX_sound {P : Program} {T : TypeId → TI} {M : Hn} {cl : Oper → Cls} {ops : Array Oper} {n : Nat} (hT : TOk P T) {K : AS → Prop} : ∀ (l : List Oper) (s : AS), dstOk n l = true → AX P T M cl ops l s K → AR P n cl ops l s K
  | [], s, _, h => h
  | o :: l, s, hd, h => by
    simp only [dstOk, List.all_cons, Bool.and_eq_true] at hd
    have hdo : ∀ d, o.dst = some d → d < n := fun d hdd => by have := hd.1; rw [hdd] at this; simpa [Nat.blt_eq] using this
    have go : ∀ {k : PV → HP → Prop}, DX P T M (cl o) (evA s.tmps) o s.hp k → ∃ v h', (∃ e, (∀ x ∈ o.op.operands, e x = evA s.tmps x) ∧ D P e (cl o) o s.hp v h') ∧ k v h' := fun hx => by
      obtain ⟨v, h', q1, q2⟩ := DX_sound hT hx
      exact ⟨v, h', ⟨_, fun _ _ => rfl, q1⟩, q2⟩
    unfold AX GX at h
    cases hg : o.guard with
    | none =>
      simp only [hg] at h
      obtain ⟨v, h', q1, q2⟩ := go h
      exact ⟨_, ⟨hdo, v, h', by unfold Res; rw [hg]; exact q1, rfl⟩, AX_sound hT l _ hd.2 q2⟩
    | some q =>
      obtain ⟨j, want⟩ := q
      simp only [hg] at h
      split at h
      · rename_i t ht
        unfold scX at h
        split at h
        · rename_i v hv
          split at h
          · rename_i b
            by_cases hb : b = want
            · obtain ⟨v, h', q1, q2⟩ := go (h.1 hb)
              exact ⟨_, ⟨hdo, v, h', by unfold Res; rw [hg]; exact ⟨t, .bool b, ht, hv, fun _ => q1, fun hn => absurd (by rw [hb]) hn⟩, rfl⟩, AX_sound hT l _ hd.2 q2⟩
            · exact ⟨_, ⟨hdo, .sc undef, s.hp, by unfold Res; rw [hg]; exact ⟨t, .bool b, ht, hv, fun hn => absurd (Value.bool.inj hn) hb, fun _ => ⟨rfl, rfl⟩⟩, rfl⟩, AX_sound hT l _ hd.2 (h.2 hb)⟩
          · rename_i hnb
            exact ⟨_, ⟨hdo, .sc undef, s.hp, by unfold Res; rw [hg]; exact ⟨t, v, ht, hv, fun hn => absurd hn (hnb want), fun _ => ⟨rfl, rfl⟩⟩, rfl⟩, AX_sound hT l _ hd.2 h⟩
        · exact h.elim
      · exact h.elim
def AWP (P : Program) (n : Nat) (c : Code) (s : AS) (Q : Exit → AS → Prop) : Prop :=
  ∀ E w0 Z0 ρ a w, Rel E w0 Z0 ρ n s a w → ∀ F, OkF F → ∀ m, c.wpIn F m P (fun e a' w' => ∃ ρ' s', Rel E w0 Z0 ρ' n s' a' w' ∧ Q e s') a w
variable {P : Program} {n : Nat} {s : AS} {Q : Exit → AS → Prop}
theorem AWP.mono {c : Code} {Q' : Exit → AS → Prop} (h : AWP P n c s Q') (hq : ∀ e s, Q' e s → Q e s) : AWP P n c s Q :=
  fun E w0 Z0 ρ a w R F hF m => wpIn_mono (h E w0 Z0 ρ a w R F hF m) (fun e a' w' ⟨ρ', s', h1, h2⟩ => ⟨ρ', s', h1, hq _ _ h2⟩)
def thenQ (next : AS → Prop) (Q : Exit → AS → Prop) : Exit → AS → Prop
  | .normal, s => next s
  | e, s => Q e s
def blockQ (id : Nat) (Q : Exit → AS → Prop) : Exit → AS → Prop
  | .exit id', s => (id' = id → Q .normal s) ∧ (id' ≠ id → Q (.exit id') s)
  | e, s => Q e s
theorem AWP.seq {x y : Code} (h : AWP P n x s (thenQ (fun s' => AWP P n y s' Q) Q)) : AWP P n (.seq x y) s Q := by
  intro E w0 Z0 ρ a w R F hF m
  refine wpIn_seq (wpIn_mono (h E w0 Z0 ρ a w R F hF m) ?_)
  rintro e a' w' ⟨ρ', s', h1, h2⟩
  cases e <;> first | exact h2 E w0 Z0 ρ' a' w' h1 F hF m | exact ⟨ρ', s', h1, h2⟩
theorem AWP.block {id : Nat} {c : Code} (h : AWP P n c s (blockQ id Q)) : AWP P n (.block id c) s Q := by
  intro E w0 Z0 ρ a w R F hF m
  refine wpIn_block (wpIn_mono (h E w0 Z0 ρ a w R F hF m) ?_)
  rintro e a' w' ⟨ρ', s', h1, h2⟩
  cases e with
  | exit id' =>
    simp only [Exit.inBlock]
    by_cases hi : id' = id
    · rw [if_pos hi]; exact ⟨ρ', s', h1, h2.1 hi⟩
    · rw [if_neg hi]; exact ⟨ρ', s', h1, h2.2 hi⟩
  | _ => exact ⟨ρ', s', h1, h2⟩
theorem AWP.cond {c : Operand} {x y : Code} {b : Bool} (hc : evA s.tmps c = .sc (.bool b)) (h1 : b = true → AWP P n x s Q) (h2 : b = false → AWP P n y s Q) : AWP P n (.cond c x y) s Q := by
  intro E w0 Z0 ρ a w R F hF m
  have := R.ev c
  rw [hc] at this
  exact wpIn_cond_split this.sc_inv (fun hb => h1 hb E w0 Z0 ρ a w R F hF m) (fun hb => h2 hb E w0 Z0 ρ a w R F hF m)
theorem AWP.skip (h : Q .normal s) : AWP P n .skip s Q := fun _ _ _ ρ _ _ R _ _ _ => wpIn_skip ⟨ρ, s, R, h⟩
theorem AWP.exit {id : Nat} (h : Q (.exit id) s) : AWP P n (.exit id) s Q := fun _ _ _ ρ _ _ R _ _ _ => wpIn_exit ⟨ρ, s, R, h⟩
theorem AWP.ret (h : Q .ret s) : AWP P n .ret s Q := fun _ _ _ ρ _ _ R _ _ _ => wpIn_ret ⟨ρ, s, R, h⟩
theorem AWP.region {id : Nat} {ops : Array Oper} {cl : Oper → Cls} (h : AR P n cl ops ops.toList s (Q .normal)) : AWP P n (.region id ops false) s Q := by
  intro E w0 Z0 ρ a w R F hF m
  exact wpIn_region_list (AR.wpList hF (Q .normal) (fun ρ s a w R' hk => ⟨ρ, s, R', hk⟩) ops.toList ρ s a w h R)
theorem AWP.regionD (hm : P.follows .mixedOrders = true) {id : Nat} {ops : Array Oper} {cl : Oper → Cls} (hc : chkDraw cl ops = true) (h : AR P n cl ops ops.toList s (Q .normal)) : AWP P n (.region id ops true) s Q := by
  intro E w0 Z0 ρ a w R F hF m
  refine wpIn_region_any hm (AR.any hF hc (Q .normal) (fun ρ s a w R' hk => ⟨ρ, s, R', hk⟩) ops.size (Array.replicate ops.size false) (List.range ops.size) ρ s a _ ?_ (by simp) ?_ (by simp) ?_ (drew_rel R))
  · rw [List.filter_eq_self.2]
    intro i hi
    have : i < ops.size := by simpa using hi
    simp [Array.getD, this]
  · intro i o ho hl
    exfalso
    have : i < ops.size := by
      apply Classical.byContradiction; intro hc'
      rw [Array.getElem?_eq_none (by omega)] at ho; cases ho
    simp [Array.getD, this] at hl
  · have e : (List.range ops.size).map (fun i => ops.getD i default) = ops.toList := by
      apply List.ext_getElem
      · simp
      · intro i h1 h2
        have : i < ops.size := by simpa using h1
        simp [Array.getD, this]
    rw [e]; exact h
theorem exists_least (p : Nat → Prop) (h : ∃ m, p m) : ∃ m, p m ∧ ∀ k, p k → m ≤ k := by
  obtain ⟨m, hm⟩ := h
  induction m using Nat.strongRecOn with
  | _ m ih =>
    by_cases c : ∃ k, k < m ∧ p k
    · obtain ⟨k, h1, h2⟩ := c; exact ih k h1 h2
    · refine ⟨m, hm, fun k hk => ?_⟩
      apply Classical.byContradiction; intro hc
      exact c ⟨k, by omega, hk⟩
theorem AWP.loop {ι : Type} {c : Code} (I : ι → AS → Prop) (μ : ι → Nat) (i0 : ι) (h0 : I i0 s)
    (round : ∀ i s, I i s → AWP P n c s (thenQ (fun s' => ∃ j, I j s' ∧ μ j < μ i) Q)) : AWP P n (.loop c) s Q := by
  intro E w0 Z0 ρ a w R F hF fm
  let J : Act → World → Nat → Prop := fun a w m => ∃ ρ s i, Rel E w0 Z0 ρ n s a w ∧ I i s ∧ μ i = m
  let m : Act → World → Nat := fun a w => @dite _ (∃ k, J a w k) (Classical.propDecidable _) (fun h => Classical.choose (exists_least _ h)) (fun _ => 0)
  have hm : ∀ a w, (∃ k, J a w k) → J a w (m a w) ∧ ∀ k, J a w k → m a w ≤ k := fun a w h => by
    have : m a w = Classical.choose (exists_least _ h) := by
      show @dite _ (∃ k, J a w k) (Classical.propDecidable _) _ _ = _
      rw [dif_pos h]
    rw [this]
    exact Classical.choose_spec (exists_least _ h)
  refine wpIn_loop (fun a w => ∃ k, J a w k) m ⟨_, ρ, s, i0, R, h0, rfl⟩ (fun a w hI => ?_)
  obtain ⟨⟨ρ, s, i, R, hi, hmi⟩, _⟩ := hm a w hI
  refine wpIn_mono (round i s hi E w0 Z0 ρ a w R F hF fm) ?_
  rintro e a' w' ⟨ρ', s', R', h2⟩
  cases e with
  | normal =>
    obtain ⟨j, hj, hlt⟩ := h2
    have hJ : J a' w' (μ j) := ⟨ρ', s', j, R', hj, rfl⟩
    have := (hm a' w' ⟨_, hJ⟩).2 _ hJ
    exact ⟨⟨_, hJ⟩, by omega⟩
  | _ => exact ⟨ρ', s', R', h2⟩
def codeOk (M : Hn) (n : Nat) : Code → Bool
  | .seq x y => codeOk M n x && codeOk M n y
  | .block _ c => codeOk M n c
  | .cond _ x y => codeOk M n x && codeOk M n y
  | .region _ ops d => dstOk n ops.toList && (!d || chkDraw (clsOf M) ops)
  | .loop c => codeOk M n c
  | _ => true
def PV.nrm0 : PV → PV
  | .lst _ 0 0 [] => .lst false 1 0 []
  | .lst _ sz n cs => .lst false sz n cs
  | p => p
def PV.nrm : PV → PV
  | .agg cs => .agg (cs.map PV.nrm0)
  | p => p.nrm0
theorem V.nrm0 {ρ : Pl} {Z : Nat → Prop} {w : World} {p : PV} {u : Value} (h : V ρ Z w p u) : V ρ Z w p.nrm0 u := by
  unfold PV.nrm0
  split
  · obtain ⟨cap, A, f, rfl, g1, g2, g3, g4, g5, g6⟩ := h.lst_inv
    exact .lst _ _ _ cap _ _ f g1 (fun hh => by cases hh) g3 (by simp) (fun hne => absurd rfl hne) (fun i hi => by simp at hi)
  · obtain ⟨cap, A, f, rfl, g1, g2, g3, g4, g5, g6⟩ := h.lst_inv
    exact .lst _ _ _ cap _ _ f g1 (fun hh => by cases hh) g3 g4 g5 g6
  · exact h
theorem V.nrm {ρ : Pl} {Z : Nat → Prop} {w : World} {p : PV} {u : Value} (h : V ρ Z w p u) : V ρ Z w p.nrm u := by
  unfold PV.nrm
  split
  · rename_i cs
    obtain ⟨vs, rfl, g1, g2⟩ := h.agg_inv
    refine .agg _ _ (by simpa using g1) (fun i hi => ?_)
    have hi' : i < cs.length := by simpa using hi
    have := (g2 i hi').nrm0
    simp only [List.getD, hi', List.getElem?_eq_getElem, Option.getD_some] at this
    simp only [List.getD, List.getElem?_map, hi', List.getElem?_eq_getElem, Option.getD_some, Option.map_some]
    exact this
  · exact h.nrm0
inductive Fz (h : HP) : PV → PV → Prop
  | cl {p : PV} (hc : p.cl = true) : Fz h p p
  | nrm {p : PV} (hc : p.cl = true) : Fz h p p.nrm
  | ref {t off sz n : Nat} {cs ds : List PV} (hb : h.blk t = some cs) (hl : off + n * sz ≤ cs.length) (hd : ds.length = n * sz) (hf : ∀ i, i < n * sz → Fz h (cs.getD (off + i) .junk) (ds.getD i .junk)) : Fz h (.ref t off sz n) (.lst false sz n ds)
  | agg {cs ds : List PV} (hd : ds.length = cs.length) (hf : ∀ i, i < cs.length → Fz h (cs.getD i .junk) (ds.getD i .junk)) : Fz h (.agg cs) (.agg ds)
  | tup {cs ds : List PV} (hd : ds.length = cs.length) (hf : ∀ i, i < cs.length → Fz h (cs.getD i .junk) (ds.getD i .junk)) : Fz h (.tup cs) (.tup ds)
  | mref {t : Nat} {m : MF} (hs : h.sp t = some (.map m)) : Fz h (.mref t) (.fmap m)
  | gmref {t : Nat} {kk : KT} {ks : List (List Int)} {ps qs : List PV} (hs : h.sp t = some (.gmap kk ks ps)) (hd : qs.length = ps.length) (hf : ∀ i, i < ps.length → Fz h (ps.getD i .junk) (qs.getD i .junk)) : Fz h (.mref t) (.gfm kk ks qs)
  | ptr {t off : Nat} {cs ds : List PV} (hb : h.blk t = some cs) (hd : ds.length + off = cs.length) (hf : ∀ i, i < ds.length → Fz h (cs.getD (off + i) .junk) (ds.getD i .junk)) : Fz h (.ptr t off) (.lptr ds)
theorem Fz.sound {w0 : World} {Z0 : Nat → Prop} {ρ : Pl} {h : HP} {w : World} (H : HRel w0 Z0 ρ h w) {p r : PV} (hf : Fz h p r) : ∀ u, V ρ (Zof Z0 ρ h) w p u → V (fun _ => none) Z0 w r u := by
  induction hf with
  | cl hc => intro u hv; exact (hv.cl_any hc).mono (fun _ _ hz => .inl hz)
  | nrm hc => intro u hv; exact V.nrm ((hv.cl_any hc).mono (fun _ _ hz => .inl hz))
  | @ref t off sz n cs ds hb hl hd hf ih =>
    intro u hv
    obtain ⟨cap, A, rfl, g2, g3, g4⟩ := hv.ref_inv
    by_cases hcap : cap = 0
    · have hn0 : n = 0 := by omega
      subst hn0
      exact .lst _ _ _ cap _ _ (fun _ => undef) g2 (fun hh => by cases hh) g3 hd (fun hne => by have : ds = [] := List.length_eq_zero_iff.1 (by simpa using hd); exact absurd this hne) (fun i hi => by rw [hd] at hi; simp at hi)
    · obtain ⟨b, k, arr, T, r1, rfl, r3, r4⟩ := g4 hcap
      rcases H.live t cs hb with ⟨_, k1⟩ | ⟨b', o', arr', T', k1, k2, k3, k4, k5⟩
      · rw [r1] at k1; cases k1
      rw [r1] at k1; cases k1
      rw [r3] at k3; cases k3
      refine .lst _ _ _ cap _ _ (fun i => arr.getD (k + (off + i)) undef) g2 (fun hh => by cases hh) g3 hd (fun hne => ⟨b, k + off, rfl, fun hz => by have := H.z0 b hz; omega, lt_of_heap r3, fun i hi => ?_⟩) (fun i hi => ?_)
      · rw [Nat.add_assoc]; exact cell_live r3 (by omega)
      · rw [hd] at hi
        exact ih i hi _ (k5 (off + i) (by omega))
  | @ptr t off cs ds hb hd hf ih =>
    intro u hv
    obtain ⟨b, k, rfl, r1⟩ := hv.ptr_inv
    rcases H.live t cs hb with ⟨_, k1⟩ | ⟨b', o', arr', T', k1, k2, k3, k4, k5⟩
    · rw [r1] at k1; cases k1
    rw [r1] at k1; cases k1
    refine .lptr _ _ _ (fun i => arr'.getD (k + (off + i)) undef) (fun hz => by have := H.z0 b hz; omega) (lt_of_heap k3) (fun i hi => ?_) (fun i hi => ?_)
    · rw [Nat.add_assoc]; exact cell_live k3 (by omega)
    · exact ih i hi _ (k5 (off + i) (by omega))
  | @agg cs ds hd hf ih =>
    intro u hv
    obtain ⟨vs, rfl, g1, g2⟩ := hv.agg_inv
    exact .agg _ _ (by omega) (fun i hi => ih i (by omega) _ (g2 i (by omega)))
  | @tup cs ds hd hf ih =>
    intro u hv
    obtain ⟨vs, rfl, g1, g2⟩ := hv.tup_inv
    exact .tup _ _ (by omega) (fun i hi => ih i (by omega) _ (g2 i (by omega)))
  | @mref t m hs =>
    intro u hv
    cases hv with
    | mref _ b hr =>
      obtain ⟨b', obj, q1, q2, q3, es, clk, rfl, q4⟩ := H.slive t _ hs
      rw [hr] at q1; cases q1
      exact .fmap _ _ (fun hz => by have := H.z0 b hz; omega) (lt_of_heap q3) ⟨es, clk, q3, q4⟩
  | @gmref t kk ks ps qs hs hd hf ih =>
    intro u hv
    cases hv with
    | mref _ b hr =>
      obtain ⟨b', obj, q1, q2, q3, es, clk, us, rfl, q4, q5, q6⟩ := H.slive t _ hs
      rw [hr] at q1; cases q1
      exact .gfm _ _ _ _ us (fun hz => by have := H.z0 b hz; omega) (lt_of_heap q3) ⟨es, clk, q3, q4⟩ (by omega) (fun i hi => ih i (by omega) _ (q6 i (by omega)))
def resOf (s : AS) : List ResultVar → Option (List PV)
  | [] => some []
  | .tmp t :: l => (resOf s l).map (s.tmps t :: ·)
  | .cell _ _ :: _ => none
def retPV (s : AS) (rs : List ResultVar) : PV := match rs with
  | [.tmp t] => s.tmps t
  | rs => match resOf s rs with
    | some ps => .tup ps
    | none => .junk
def resOk (n : Nat) : List ResultVar → Bool
  | [] => true
  | .tmp _ :: l => resOk n l
  | .cell _ _ :: _ => false
def CellP (T : TypeId → TI) (s : AS) (x t : Nat) (p : PV) : Prop := ∃ tk off cs, s.tmps x = .ptr tk off ∧ s.hp.blk tk = some cs ∧ ((∃ sz, (T t).shape = some (true, sz) ∧ off + sz ≤ cs.length ∧ p = .agg ((cs.drop off).take sz)) ∨ ((T t).shape = some (false, 1) ∧ cs[off]? = some p))
def retC (T : TypeId → TI) (s : AS) : List ResultVar → List PV → Prop
  | [], ps => ps = []
  | .tmp t :: l, ps => ∃ qs, ps = s.tmps t :: qs ∧ retC T s l qs
  | .cell x t :: l, ps => ∃ p qs, ps = p :: qs ∧ CellP T s x t p ∧ retC T s l qs
def packP : List PV → PV
  | [p] => p
  | ps => .tup ps
def FzRes (T : TypeId → TI) (s : AS) (rs : List ResultVar) (r : PV) : Prop :=
  match resOk 0 rs with
  | true => Fz s.hp (retPV s rs) r
  | false => ∃ ps, retC T s rs ps ∧ Fz s.hp (packP ps) r
theorem resOk_any {n m : Nat} : ∀ {rs : List ResultVar}, resOk n rs = resOk m rs
  | [] => rfl
  | .tmp _ :: l => resOk_any (rs := l)
  | .cell _ _ :: _ => rfl
theorem resOf_some {s : AS} : ∀ {rs : List ResultVar}, resOk 0 rs = true → ∃ ps, resOf s rs = some ps ∧ ∀ T, retC T s rs ps
  | [], _ => ⟨[], rfl, fun _ => rfl⟩
  | .tmp t :: l, h => by
    obtain ⟨ps, q1, q2⟩ := resOf_some (s := s) (rs := l) h
    exact ⟨s.tmps t :: ps, by simp [resOf, q1], fun T => ⟨ps, rfl, q2 T⟩⟩
  | .cell _ _ :: _, h => by simp [resOk] at h
theorem retC_tmp {T : TypeId → TI} {s : AS} : ∀ {rs : List ResultVar}, resOk 0 rs = true → ∃ ps, retC T s rs ps ∧ packP ps = retPV s rs
  | [], _ => ⟨[], rfl, rfl⟩
  | [.tmp t], _ => ⟨[s.tmps t], ⟨[], rfl, rfl⟩, rfl⟩
  | .tmp t :: .tmp t2 :: l, h => by
    obtain ⟨ps, q1, q2⟩ := resOf_some (s := s) (rs := l) h
    exact ⟨s.tmps t :: s.tmps t2 :: ps, ⟨_, rfl, _, rfl, q2 T⟩, by simp [packP, retPV, resOf, q1]⟩
  | .cell _ _ :: _, h => by simp [resOk] at h
  | .tmp _ :: .cell _ _ :: _, h => by simp [resOk] at h
theorem cell_ok {T : TypeId → TI} (hT : TOk P T) {E : PV → Value → Prop} {w0 : World} {Z0 : Nat → Prop} {ρ : Pl} {s : AS} {a : Act} {w : World} (R : Rel E w0 Z0 ρ n s a w) {x t : Nat} {p : PV} (h : CellP T s x t p) :
    ∃ u, (do loadVar t (← asAddr (a.tmps.getD x undef)) : Sem Value).run P w = .ok u w ∧ V ρ (Zof Z0 ρ s.hp) w p u := by
  obtain ⟨tk, off, cs, h1, hb, h3⟩ := h
  have e1 := R.tmps x
  rw [h1] at e1
  obtain ⟨b, k0, e3, r1⟩ := e1.ptr_inv
  rw [e3]
  rcases R.heap.live tk cs hb with ⟨_, k1⟩ | ⟨b', o', arr, T', k1, k2, k3, k4, k5⟩
  · rw [r1] at k1; cases k1
  rw [r1] at k1; cases k1
  rcases h3 with ⟨sz, hs, hp, rfl⟩ | ⟨hs, hp⟩
  · haveI := hT.shape hs
    have hr := run_loadn (P := P) (w := w) this (b := b) (k := k0 + off) (fun i => arr.getD (k0 + (off + i)) undef) (fun i hi => by rw [Nat.add_assoc]; exact cell_live k3 (by omega))
    exact ⟨_, by simpa [Instr.loadAt, Instr.sureAddr, asAddr] using hr, V.getArr k5 off sz hp⟩
  · haveI := hT.shape hs
    have hl := lt_of_get hp
    have hr := run_load1 (P := P) (w := w) this (cell_live k3 (show k0 + off < arr.size by omega))
    have hv : V ρ (Zof Z0 ρ s.hp) w p (arr.getD (k0 + off) undef) := by have := k5 off hl; rwa [getD_of hp] at this
    refine ⟨arr.getD (k0 + off) undef, ?_, hv⟩
    rw [show (do loadVar t (← asAddr (.pointer (some ⟨b, k0 + off, none⟩))) : Sem Value) = Instr.loadAt t (.pointer (some ⟨b, k0 + off, none⟩)) from ?_]
    · exact hr
    · rfl
theorem mapM_res {T : TypeId → TI} (hT : TOk P T) {E : PV → Value → Prop} {w0 : World} {Z0 : Nat → Prop} {ρ : Pl} {s : AS} {a : Act} {w : World} (R : Rel E w0 Z0 ρ n s a w) : ∀ (rs : List ResultVar) (ps : List PV), retC T s rs ps →
    ∃ us, (rs.mapM (fun | .tmp t => pure (a.tmps.getD t undef) | .cell x t => do loadVar t (← asAddr (a.tmps.getD x undef))) : Sem (List Value)).run P w = .ok us w ∧ us.length = ps.length ∧
      ∀ i, i < ps.length → V ρ (Zof Z0 ρ s.hp) w (ps.getD i .junk) (us.getD i undef)
  | [], ps, h => by
    have : ps = [] := h
    subst this
    exact ⟨[], rfl, rfl, fun i hi => by simp at hi⟩
  | .tmp t :: l, ps, h => by
    obtain ⟨qs, rfl, h2⟩ := h
    obtain ⟨us, q1, q3, q5⟩ := mapM_res hT R l qs h2
    refine ⟨a.tmps.getD t undef :: us, ?_, by simp [q3], fun i hi => ?_⟩
    · simp only [List.mapM_cons, Sem.run_bind, Sem.run_pure, Result.andThen_ok, q1]
    · cases i with
      | zero => simpa [List.getD] using R.tmps t
      | succ i => simpa [List.getD] using q5 i (by simpa using hi)
  | .cell x t :: l, ps, h => by
    obtain ⟨p, qs, rfl, h1, h2⟩ := h
    obtain ⟨u, g1, g2⟩ := cell_ok hT R h1
    obtain ⟨us, q1, q3, q5⟩ := mapM_res hT R l qs h2
    refine ⟨u :: us, ?_, by simp [q3], fun i hi => ?_⟩
    · rw [List.mapM_cons, Sem.run_bind]
      refine (congrArg (fun r => Result.andThen r _) g1).trans ?_
      simp only [Result.andThen_ok, Sem.run_bind, q1, Sem.run_pure]
    · cases i with
      | zero => simpa [List.getD] using g2
      | succ i => simpa [List.getD] using q5 i (by simpa using hi)
theorem ret_okC {T : TypeId → TI} (hT : TOk P T) {fn : Func} {E : PV → Value → Prop} {w0 : World} {Z0 : Nat → Prop} {ρ : Pl} {s : AS} {a : Act} {w : World} (R : Rel E w0 Z0 ρ n s a w) {ps : List PV} (hr : retC T s fn.results.toList ps) :
    ∃ u, (results fn a.tmps).run P w = .ok u w ∧ V ρ (Zof Z0 ρ s.hp) w (packP ps) u := by
  obtain ⟨us, q1, q3, q5⟩ := mapM_res (P := P) hT R fn.results.toList ps hr
  have hrun : (fn.results.mapM (fun | .tmp t => pure (a.tmps.getD t undef) | .cell x t => do loadVar t (← asAddr (a.tmps.getD x undef))) : Sem (Array Value)).run P w = .ok us.toArray w := by
    rw [Array.mapM_eq_mapM_toList, Sem.run_map, q1]; rfl
  refine ⟨if h : us.toArray.size = 1 then us.toArray[0] else .tuple us.toArray, ?_, ?_⟩
  · unfold results
    rw [Sem.run_bind]
    exact (congrArg (fun r => Result.andThen r _) hrun).trans rfl
  · by_cases hl : ps.length = 1
    · obtain ⟨p, rfl⟩ := List.length_eq_one_iff.1 hl
      have hu1 : us.length = 1 := by simpa using q3
      have := q5 0 (by simp)
      rw [dif_pos (by simpa using hu1)]
      have e2 : us.toArray[0]'(by simp; omega) = us.getD 0 undef := by simp [List.getD, hu1]
      rw [e2]
      simpa [packP] using this
    · rw [dif_neg (by simp; omega)]
      have e2 : packP ps = .tup ps := by
        unfold packP
        split
        · exact absurd rfl hl
        · rfl
      rw [e2]
      exact .tup _ _ (by simp [q3]) (fun i hi => by have := q5 i hi; rwa [arr_toList])
theorem ret_ok {T : TypeId → TI} (hT : TOk P T) {fn : Func} {E : PV → Value → Prop} {w0 : World} {Z0 : Nat → Prop} {ρ : Pl} {s : AS} {a : Act} {w : World} (R : Rel E w0 Z0 ρ n s a w) (hr : resOk n fn.results.toList = true) :
    ∃ u, (results fn a.tmps).run P w = .ok u w ∧ V ρ (Zof Z0 ρ s.hp) w (retPV s fn.results.toList) u := by
  obtain ⟨ps, q1, q2⟩ := retC_tmp (T := T) (s := s) (rs := fn.results.toList) (by rw [resOk_any (m := n)]; exact hr)
  rw [← q2]
  exact ret_okC hT R q1
theorem FzRes.out {T : TypeId → TI} (hT : TOk P T) {fn : Func} {E : PV → Value → Prop} {w0 : World} {Z0 : Nat → Prop} {ρ : Pl} {s : AS} {a : Act} {w : World} (R : Rel E w0 Z0 ρ n s a w) {r : PV} (h : FzRes T s fn.results.toList r) :
    ∃ u, (results fn a.tmps).run P w = .ok u w ∧ V (fun _ => none) Z0 w r u := by
  unfold FzRes at h
  split at h
  · rename_i hr
    obtain ⟨u, q1, q2⟩ := ret_ok (P := P) hT R (by rw [resOk_any (m := 0)]; exact hr)
    exact ⟨u, q1, h.sound R.heap u q2⟩
  · obtain ⟨ps, h1, h2⟩ := h
    obtain ⟨u, q1, q2⟩ := ret_okC (P := P) hT R h1
    exact ⟨u, q1, h2.sound R.heap u q2⟩
theorem SC.of {T : TypeId → TI} (hT : TOk P T) {f : FuncId} {fn : Func} {c : Code} {args : List PV} {r : PV} (hf : P.funcs[f]? = some fn) (hn : (fn.name == "runtime.NumGoroutine") = false) (hb : fn.body = some c) (hk : args.length ≤ fn.ntmps)
    (h : AWP P fn.ntmps c ⟨fun t => args.getD t .junk, ⟨fun _ => none, 0, fun _ => none, fun _ => false⟩⟩ (fun e s' => (e = .normal ∨ e = .ret) ∧ FzRes T s' fn.results.toList r)) : SC P f args r := by
  refine ⟨⟨fn, hf, hn, by rw [hb]; rfl⟩, fun Z w vs hz hvs hv => ?_⟩
  have R : Rel (fun _ _ => False) w Z (fun _ => none) fn.ntmps ⟨fun t => args.getD t .junk, ⟨fun _ => none, 0, fun _ => none, fun _ => false⟩⟩ { tmps := vs ++ Array.replicate (fn.ntmps - vs.size) undef, defers := [] } w := by
    refine ⟨rfl, by simp; omega, fun t => ?_, ⟨Below.refl _ _, hz, fun t cs h => (by cases h), fun t t' cs cs' b o o' h => (by cases h), fun t _ => ⟨rfl, rfl⟩, fun t c h => (by cases h), fun t t' c c' b h => (by cases h), fun t h => (by cases h)⟩, fun _ _ h => h.elim⟩
    by_cases ht : t < args.length
    · have e1 : (vs ++ Array.replicate (fn.ntmps - vs.size) undef).getD t undef = vs.getD t undef := by
        simp [Array.getElem?_append_left (show t < vs.size by omega)]
      rw [e1]
      exact (hv t ht).mono (fun b _ hb => by
        rcases hb with hb | ⟨t, cs, o, h1, h2⟩ | ⟨t, cs, h1, h2⟩
        · exact hb
        · cases h2
        · cases h2)
    · have e1 : args.getD t .junk = .junk := by simp [List.getD, show args.length ≤ t by omega]
      show V _ _ _ (args.getD t .junk) _
      rw [e1]; exact .junk _
  refine calls_of_wp hf hb (wp_mono (wpIn_wide.1 (h _ w Z (fun _ => none) _ w R Fence.wide okf_wide 0)) ?_)
  rintro e a' w' ⟨ρ', s', R', he, hfz⟩
  obtain ⟨u, q1, q2⟩ := FzRes.out (P := P) hT R' hfz
  have hpost : a'.defers = [] ∧ ∃ v, (results fn a'.tmps).run P w' = .ok v w' ∧ ∃ u, Ending.returned v = .returned u ∧ V (fun _ => none) Z w' r u ∧ Below w.heap.size w w' :=
    ⟨R'.defers, u, q1, u, rfl, q2, R'.heap.below⟩
  rcases he with rfl | rfl <;> exact hpost
def HP.Wf (h : HP) : Prop := ∀ t, 2 * h.next ≤ t → h.blk t = none ∧ h.sp t = none
def SChE (P : Program) (f : FuncId) (args : List PV) (h : HP) (Q : PV → HP → Prop) : Prop :=
  Callable P f ∧ ∀ (w0 : World) (Z0 : Nat → Prop) (ρ : Pl) (w : World) (vs : Array Value), HRel w0 Z0 ρ h w → vs.size = args.length →
    (∀ i, i < args.length → V ρ (Zof Z0 ρ h) w (args.getD i .junk) (vs.getD i undef)) →
    Calls P f vs w fun e w' => ∃ u ρ' r h', e = .returned u ∧ Q r h' ∧ HRel w0 Z0 ρ' h' w' ∧ V ρ' (Zof Z0 ρ' h') w' r u ∧ ∀ pv x, V ρ (Zof Z0 ρ h) w pv x → V ρ' (Zof Z0 ρ' h') w' pv x
theorem SChE.mono {f : FuncId} {args : List PV} {h : HP} {Q Q' : PV → HP → Prop} (hs : SChE P f args h Q) (hq : ∀ r h', Q r h' → Q' r h') : SChE P f args h Q' :=
  ⟨hs.1, fun w0 Z0 ρ w vs H h1 h2 => (hs.2 w0 Z0 ρ w vs H h1 h2).mono fun e w' ⟨u, ρ', r, h', k1, k2, k3⟩ => ⟨u, ρ', r, h', k1, hq _ _ k2, k3⟩⟩
theorem SChE.of {T : TypeId → TI} (hT : TOk P T) {f : FuncId} {fn : Func} {c : Code} {args : List PV} {h : HP} {Q : PV → HP → Prop} (hf : P.funcs[f]? = some fn) (hn : (fn.name == "runtime.NumGoroutine") = false) (hb : fn.body = some c) (hk : args.length ≤ fn.ntmps)
    (hw : h.Wf → AWP P fn.ntmps c ⟨fun t => args.getD t .junk, h⟩ (fun e s' => (e = .normal ∨ e = .ret) ∧ ∃ ps, retC T s' fn.results.toList ps ∧ Q (packP ps) s'.hp)) : SChE P f args h Q := by
  refine ⟨⟨fn, hf, hn, by rw [hb]; rfl⟩, fun w0 Z0 ρ w vs H hvs hv => ?_⟩
  have hwf : h.Wf := fun t ht => by
    obtain ⟨q1, q2⟩ := H.free t ht
    refine ⟨q1, ?_⟩
    cases hs : h.sp t with
    | none => rfl
    | some c => obtain ⟨b, obj, e, _⟩ := H.slive t c hs; rw [q2] at e; cases e
  have R : Rel (fun p u => V ρ (Zof Z0 ρ h) w p u) w0 Z0 ρ fn.ntmps ⟨fun t => args.getD t .junk, h⟩ { tmps := vs ++ Array.replicate (fn.ntmps - vs.size) undef, defers := [] } w := by
    refine ⟨rfl, by simp; omega, fun t => ?_, H, fun _ _ h => h⟩
    by_cases ht : t < args.length
    · have e1 : (vs ++ Array.replicate (fn.ntmps - vs.size) undef).getD t undef = vs.getD t undef := by
        simp [Array.getElem?_append_left (show t < vs.size by omega)]
      rw [e1]
      exact hv t ht
    · have e1 : args.getD t .junk = .junk := by simp [List.getD, show args.length ≤ t by omega]
      show V _ _ _ (args.getD t .junk) _
      rw [e1]; exact .junk _
  refine calls_of_wp hf hb (wp_mono (wpIn_wide.1 (hw hwf _ w0 Z0 ρ _ w R Fence.wide okf_wide 0)) ?_)
  rintro e a' w' ⟨ρ', s', R', he, ps, hr, hq⟩
  obtain ⟨u, q1, q2⟩ := ret_okC (P := P) hT R' hr
  have hpost : a'.defers = [] ∧ ∃ v, (results fn a'.tmps).run P w' = .ok v w' ∧ ∃ u ρ' r h', Ending.returned v = .returned u ∧ Q r h' ∧ HRel w0 Z0 ρ' h' w' ∧ V ρ' (Zof Z0 ρ' h') w' r u ∧ ∀ pv x, V ρ (Zof Z0 ρ h) w pv x → V ρ' (Zof Z0 ρ' h') w' pv x :=
    ⟨R'.defers, u, q1, u, ρ', _, _, rfl, hq, R'.heap, q2, R'.mem⟩
  rcases he with rfl | rfl <;> exact hpost
structure Fr (X : List Nat) (h h' : HP) : Prop where
  next : h.next ≤ h'.next
  blk : ∀ t, t < 2 * h.next → t ∉ X → h'.blk t = h.blk t
  sp : ∀ t, t < 2 * h.next → t ∉ X → h'.sp t = h.sp t
theorem Fr.refl (X : List Nat) (h : HP) : Fr X h h := ⟨Nat.le_refl _, fun _ _ _ => rfl, fun _ _ _ => rfl⟩
section
variable {X : List Nat} {h h1 : HP} (H : Fr X h h1)
include H
theorem Fr.add (b : Bool) (cs : List PV) : Fr X h (h1.add b cs) :=
  ⟨Nat.le_succ_of_le H.next, fun t ht hx => (HP.add_other _ _ _ (fun e => by have := H.next; have := (h1.tok_ge b).1; omega)).trans (H.blk t ht hx), H.sp⟩
theorem Fr.set {tk : Nat} (cs : List PV) (hk : tk ∈ X ∨ 2 * h.next ≤ tk) : Fr X h (h1.set tk cs) :=
  ⟨H.next, fun t ht hx => (HP.set_other _ _ (fun e => by subst e; rcases hk with hk | hk; exact hx hk; omega)).trans (H.blk t ht hx), H.sp⟩
theorem Fr.kill {tk : Nat} (hk : tk ∈ X ∨ 2 * h.next ≤ tk) : Fr X h (h1.kill tk) :=
  ⟨H.next, fun t ht hx => (HP.kill_other _ (fun e => by subst e; rcases hk with hk | hk; exact hx hk; omega)).trans (H.blk t ht hx), H.sp⟩
theorem Fr.addS (b : Bool) (c : SpC) : Fr X h (h1.addS b c) :=
  ⟨Nat.le_succ_of_le H.next, H.blk, fun t ht hx => (HP.addS_other _ _ _ (fun e => by have := H.next; have := (h1.tok_ge b).1; omega)).trans (H.sp t ht hx)⟩
theorem Fr.setS {tk : Nat} (c : SpC) (hk : tk ∈ X ∨ 2 * h.next ≤ tk) : Fr X h (h1.setS tk c) :=
  ⟨H.next, H.blk, fun t ht hx => (HP.setS_other _ _ (fun e => by subst e; rcases hk with hk | hk; exact hx hk; omega)).trans (H.sp t ht hx)⟩
theorem Fr.killS {tk : Nat} (hk : tk ∈ X ∨ 2 * h.next ≤ tk) : Fr X h (h1.killS tk) :=
  ⟨H.next, H.blk, fun t ht hx => (HP.killS_other _ (fun e => by subst e; rcases hk with hk | hk; exact hx hk; omega)).trans (H.sp t ht hx)⟩
theorem Fr.bump (k : Nat) : Fr X h (h1.bump k) :=
  ⟨Nat.le_trans H.next (Nat.le_add_right _ _), H.blk, H.sp⟩
theorem Fr.put {tk : Nat} (cs : List PV) (hk : tk ∈ X ∨ 2 * h.next ≤ tk) : Fr X h (h1.put tk cs) :=
  ⟨H.next, fun t ht hx => (HP.put_other _ _ (fun e => by subst e; rcases hk with hk | hk; exact hx hk; omega)).trans (H.blk t ht hx), H.sp⟩
theorem Fr.putS {tk : Nat} (c : SpC) (hk : tk ∈ X ∨ 2 * h.next ≤ tk) : Fr X h (h1.putS tk c) :=
  ⟨H.next, H.blk, fun t ht hx => (HP.putS_other _ _ (fun e => by subst e; rcases hk with hk | hk; exact hx hk; omega)).trans (H.sp t ht hx)⟩
theorem Fr.trans {Y : List Nat} {h2 : HP} (H2 : Fr Y h1 h2) (hy : ∀ t ∈ Y, t ∈ X ∨ 2 * h.next ≤ t) : Fr X h h2 :=
  ⟨Nat.le_trans H.next H2.next, fun t ht hx => (H2.blk t (by have := H.next; omega) (fun hm => by rcases hy t hm with q | q; exact hx q; omega)).trans (H.blk t ht hx),
    fun t ht hx => (H2.sp t (by have := H.next; omega) (fun hm => by rcases hy t hm with q | q; exact hx q; omega)).trans (H.sp t ht hx)⟩
theorem Fr.get {t : Nat} {cs : List PV} (ht : t < 2 * h.next) (hx : t ∉ X) (hb : h.blk t = some cs) : h1.blk t = some cs := (H.blk t ht hx).trans hb
end
theorem HP.Wf.lt {h : HP} (hw : h.Wf) {t : Nat} {cs : List PV} (hb : h.blk t = some cs) : t < 2 * h.next := by
  apply Classical.byContradiction; intro hc
  rw [(hw t (by omega)).1] at hb; cases hb
inductive Ow (h : HP) : PV → Nat → Nat → List PV → Prop
  | ref {t off sz n : Nat} {cs0 cs : List PV} (hb : h.blk t = some cs0) (hl : off + n * sz ≤ cs0.length) (hd : (cs0.drop off).take (n * sz) = cs) (hc : PV.cl.clL cs = true) : Ow h (.ref t off sz n) sz n cs
  | nil {sz sz' : Nat} : Ow h (.lst true sz' 0 []) sz 0 []
theorem SCo.of {T : TypeId → TI} (hT : TOk P T) {f : FuncId} {fn : Func} {c : Code} {args : List PV} {sz m : Nat} {cs : List PV} (hf : P.funcs[f]? = some fn) (hn : (fn.name == "runtime.NumGoroutine") = false) (hb : fn.body = some c) (hk : args.length ≤ fn.ntmps)
    (hr : resOk fn.ntmps fn.results.toList = true)
    (h : AWP P fn.ntmps c ⟨fun t => args.getD t .junk, ⟨fun _ => none, 0, fun _ => none, fun _ => false⟩⟩ (fun e s' => (e = .normal ∨ e = .ret) ∧ Ow s'.hp (retPV s' fn.results.toList) sz m cs)) : SCo P f args sz m cs := by
  refine ⟨⟨fn, hf, hn, by rw [hb]; rfl⟩, fun Z w vs hz hvs hv => ?_⟩
  have R : Rel (fun _ _ => False) w Z (fun _ => none) fn.ntmps ⟨fun t => args.getD t .junk, ⟨fun _ => none, 0, fun _ => none, fun _ => false⟩⟩ { tmps := vs ++ Array.replicate (fn.ntmps - vs.size) undef, defers := [] } w := by
    refine ⟨rfl, by simp; omega, fun t => ?_, ⟨Below.refl _ _, hz, fun t cs h => (by cases h), fun t t' cs cs' b o o' h => (by cases h), fun t _ => ⟨rfl, rfl⟩, fun t c h => (by cases h), fun t t' c c' b h => (by cases h), fun t h => (by cases h)⟩, fun _ _ h => h.elim⟩
    by_cases ht : t < args.length
    · have e1 : (vs ++ Array.replicate (fn.ntmps - vs.size) undef).getD t undef = vs.getD t undef := by
        simp [Array.getElem?_append_left (show t < vs.size by omega)]
      rw [e1]
      exact (hv t ht).mono (fun b _ hb => by
        rcases hb with hb | ⟨t, cs, o, h1, h2⟩ | ⟨t, cs, h1, h2⟩
        · exact hb
        · cases h2
        · cases h2)
    · have e1 : args.getD t .junk = .junk := by simp [List.getD, show args.length ≤ t by omega]
      show V _ _ _ (args.getD t .junk) _
      rw [e1]; exact .junk _
  refine calls_of_wp hf hb (wp_mono (wpIn_wide.1 (h _ w Z (fun _ => none) _ w R Fence.wide okf_wide 0)) ?_)
  rintro e a' w' ⟨ρ', s', R', he, how⟩
  obtain ⟨u, q1, q2⟩ := ret_ok (P := P) hT (fn := fn) R' hr
  have hpost : ∃ A cap, Ending.returned u = .returned (.slice A m cap) ∧ m ≤ cap ∧ cap ≤ maxLen ∧ Below w.heap.size w w' ∧ (cap = 0 → cs = []) ∧
      (cap ≠ 0 → ∃ (b o : Nat) (arr : Array Value) (T : TypeId), A = some ⟨b, o, none⟩ ∧ w.heap.size ≤ b ∧ w'.heap[b]? = some (.cells arr T (0, 0)) ∧ o + cap * sz ≤ arr.size ∧ o + cs.length ≤ arr.size ∧
        ∀ i, i < cs.length → V (fun _ => none) (fun k => Z k ∨ k = b) w' (cs.getD i .junk) (arr.getD (o + i) undef)) := by
    generalize retPV s' fn.results.toList = p at how q2
    cases how with
    | @ref t off _ _ cs0 _ hblk hl hd hc =>
      obtain ⟨cap, A, rfl, g2, g3, g4⟩ := q2.ref_inv
      have hcl : cs.length = m * sz := by rw [← hd]; simp; omega
      refine ⟨A, cap, rfl, g2, g3, R'.heap.below, fun hc0 => ?_, fun hc0 => ?_⟩
      · have : m = 0 := by omega
        subst this
        exact List.length_eq_zero_iff.1 (by simpa using hcl)
      · obtain ⟨b, k, arr, T, r1, rfl, r3, r4⟩ := g4 hc0
        rcases R'.heap.live t cs0 hblk with ⟨_, k1⟩ | ⟨b', o', arr', T', k1, k2, k3, k4, k5⟩
        · rw [r1] at k1; cases k1
        rw [r1] at k1; cases k1
        rw [r3] at k3; cases k3
        refine ⟨b, k + off, arr, T, rfl, k2, r3, by omega, by omega, fun i hi => ?_⟩
        have hi2 : off + i < cs0.length := by omega
        have := k5 (off + i) hi2
        have e : cs.getD i .junk = cs0.getD (off + i) .junk := by
          subst hd
          have hi3 : i < m * sz := by omega
          simp [List.getD, List.getElem?_take, hi3, List.getElem?_drop]
        rw [Nat.add_assoc, e]
        refine (this.cl_any (by rw [← e]; exact clL_get hc i hi)).mono (fun k' _ hz' => ?_)
        rcases hz' with hz' | rfl
        · exact .inl hz'
        · exact .inr (.inl ⟨t, cs0, k, hblk, r1⟩)
    | nil =>
      obtain ⟨cap, A, f, rfl, g1, g2, g3, g4, g5, g6⟩ := q2.lst_inv
      have hc0 : cap = 0 := g2 rfl
      exact ⟨A, cap, rfl, g1, g3, R'.heap.below, fun _ => rfl, fun hc => absurd hc0 hc⟩
  rcases he with rfl | rfl <;> exact ⟨R'.defers, u, q1, hpost⟩
theorem AWP.own {c : Code} {d sz' : Nat} (sz : Nat) (hd : s.tmps d = .lst true sz' 0 []) (h : AWP P n c ⟨upd s.tmps d (.ref (s.hp.tok false) 0 sz 0), s.hp.add false []⟩ Q) : AWP P n c s Q := by
  intro E w0 Z0 ρ a w R
  obtain ⟨H', up⟩ := R.heap.empty false
  refine h E w0 Z0 ρ a w ⟨R.defers, R.size, fun t => ?_, H', fun p u h => up _ _ (R.mem p u h)⟩
  by_cases e : t = d
  · subst e
    show V _ _ _ (upd s.tmps t _ t) _
    rw [show upd s.tmps t (.ref (s.hp.tok false) 0 sz 0) t = .ref (s.hp.tok false) 0 sz 0 by simp [upd]]
    have hv := R.tmps t
    rw [hd] at hv
    generalize a.tmps.getD t undef = u at hv
    obtain ⟨cap, A, f, rfl, g1, g2, g3, g4, g5, g6⟩ := hv.lst_inv
    have hc0 : cap = 0 := g2 rfl
    exact .ref _ _ _ _ _ _ g1 g3 (fun hc => absurd hc0 hc)
  · show V _ _ _ (upd s.tmps d _ t) _
    rw [show upd s.tmps d (.ref (s.hp.tok false) 0 sz 0) t = s.tmps t by simp [upd, e]]
    exact up _ _ (R.tmps t)
theorem Rel.freeze {E : PV → Value → Prop} {w0 : World} {Z0 : Nat → Prop} {ρ : Pl} {a : Act} {w : World} {d tk off sz m : Nat} {cs : List PV} (R : Rel E w0 Z0 ρ n s a w) (hd : s.tmps d = .ref tk off sz m) (hb : s.hp.blk tk = some cs) (hl : off + m * sz ≤ cs.length) : Rel E w0 Z0 ρ n ⟨upd s.tmps d (.lst false sz m ((cs.drop off).take (m * sz))), s.hp.kill tk⟩ a w := by
  obtain ⟨H', up⟩ := R.heap.kill tk
  refine ⟨R.defers, R.size, fun t => ?_, H', fun p u h => up _ _ (R.mem p u h)⟩
  by_cases e : t = d
  · subst e
    show V _ _ _ (upd s.tmps t _ t) _
    rw [show upd s.tmps t (.lst false sz m ((cs.drop off).take (m * sz))) t = .lst false sz m ((cs.drop off).take (m * sz)) by simp [upd]]
    have hv := R.tmps t
    rw [hd] at hv
    generalize a.tmps.getD t undef = u at hv
    obtain ⟨cap, A, rfl, g2, g3, g4⟩ := hv.ref_inv
    have hlen : ((cs.drop off).take (m * sz)).length = m * sz := by simp; omega
    by_cases hcap : cap = 0
    · have hn0 : m = 0 := by omega
      subst hn0
      exact .lst _ _ _ cap _ _ (fun _ => undef) g2 (fun hh => by cases hh) g3 (by simp) (fun hne => absurd (by simp) hne) (fun i hi => by simp at hi)
    · obtain ⟨b, k, arr, T, r1, rfl, r3, r4⟩ := g4 hcap
      rcases R.heap.live tk cs hb with ⟨_, k1⟩ | ⟨b', o', arr', T', k1, k2, k3, k4, k5⟩
      · rw [r1] at k1; cases k1
      rw [r1] at k1; cases k1
      rw [r3] at k3; cases k3
      refine .lst _ _ _ cap _ _ (fun i => arr.getD (k + (off + i)) undef) g2 (fun hh => by cases hh) g3 hlen (fun hne => ⟨b, k + off, rfl, fun hz => ?_, lt_of_heap r3, fun i hi => ?_⟩) (fun i hi => ?_)
      · rcases hz with hz | ⟨t', c', o', h1, h2⟩ | ⟨t', c', h1, h2⟩
        · have := R.heap.z0 b hz; omega
        · obtain ⟨n1, n2⟩ := HP.kill_some h1
          exact n1 (R.heap.inj t' tk c' cs b o' k n2 hb h2 r1)
        · exact R.heap.apart' h1 h2 hb r1
      · rw [Nat.add_assoc]; exact cell_live r3 (by omega)
      · rw [hlen] at hi
        have e : ((cs.drop off).take (m * sz)).getD i .junk = cs.getD (off + i) .junk := by simp [List.getD, List.getElem?_take, hi, List.getElem?_drop]
        rw [e]
        exact up _ _ (k5 (off + i) (by omega))
  · show V _ _ _ (upd s.tmps d _ t) _
    rw [show upd s.tmps d (.lst false sz m ((cs.drop off).take (m * sz))) t = s.tmps t by simp [upd, e]]
    exact up _ _ (R.tmps t)
theorem AWP.freeze {c : Code} {d tk off sz m : Nat} {cs : List PV} (hd : s.tmps d = .ref tk off sz m) (hb : s.hp.blk tk = some cs) (hl : off + m * sz ≤ cs.length) (h : AWP P n c ⟨upd s.tmps d (.lst false sz m ((cs.drop off).take (m * sz))), s.hp.kill tk⟩ Q) : AWP P n c s Q :=
  fun E w0 Z0 ρ a w R => h E w0 Z0 ρ a w (R.freeze hd hb hl)
theorem AWP.bump {c : Code} (k : Nat) (h : AWP P n c ⟨s.tmps, s.hp.bump k⟩ Q) : AWP P n c s Q := by
  intro E w0 Z0 ρ a w R
  exact h E w0 Z0 ρ a w ⟨R.defers, R.size, fun t => R.tmps t, R.heap.bump k, R.mem⟩
theorem AWP.freezeP {c : Code} {d tk : Nat} {cs : List PV} (hd : s.tmps d = .ptr tk 0) (hb : s.hp.blk tk = some cs) (h : AWP P n c ⟨upd s.tmps d (.lptr cs), s.hp.kill tk⟩ Q) : AWP P n c s Q := by
  intro E w0 Z0 ρ a w R
  obtain ⟨H', up⟩ := R.heap.kill tk
  refine h E w0 Z0 ρ a w ⟨R.defers, R.size, fun t => ?_, H', fun p u h => up _ _ (R.mem p u h)⟩
  by_cases e : t = d
  · subst e
    show V _ _ _ (upd s.tmps t _ t) _
    rw [show upd s.tmps t (.lptr cs) t = .lptr cs by simp [upd]]
    have hv := R.tmps t
    rw [hd] at hv
    generalize a.tmps.getD t undef = u at hv
    obtain ⟨b, k, rfl, r1⟩ := hv.ptr_inv
    rcases R.heap.live tk cs hb with ⟨_, k1⟩ | ⟨b', o', arr', T', k1, k2, k3, k4, k5⟩
    · rw [r1] at k1; cases k1
    rw [r1] at k1; cases k1
    refine .lptr _ b _ (fun i => arr'.getD (k + i) undef) (fun hz => ?_) (lt_of_heap k3) (fun i hi => ?_) (fun i hi => up _ _ (k5 i hi))
    · rcases hz with hz | ⟨t', c', o', h1, h2⟩ | ⟨t', c', h1, h2⟩
      · have := R.heap.z0 b hz; omega
      · obtain ⟨n1, n2⟩ := HP.kill_some h1
        exact n1 (R.heap.inj t' tk c' cs b o' k n2 hb h2 r1)
      · exact R.heap.apart' h1 h2 hb r1
    · rw [Nat.add_zero]; exact cell_live k3 (by omega)
  · show V _ _ _ (upd s.tmps d _ t) _
    rw [show upd s.tmps d (.lptr cs) t = s.tmps t by simp [upd, e]]
    exact up _ _ (R.tmps t)
theorem AWP.next {id d1 d2 x : Nat} {q1 q2 : String} {a1 a2 : Array Edge} {ty1 ty2 : TypeId} {rest : Code} {tk : Nat} {m : MF} {pre : List (Int × Value)} (hd : s.tmps x = .itr tk) (hb : s.hp.sp tk = some (.iter m pre)) (hn1 : d1 < n) (hn2 : d2 < n)
    (h1 : (∀ k v, m k = some v → (k, v) ∈ pre) → AWP P n rest ⟨upd (upd s.tmps d1 .junk) d2 (.sc (.bool false)), s.hp⟩ Q)
    (h2 : ∀ k v, m k = some v → (∀ y ∈ pre, y.1 ≠ k) → AWP P n rest ⟨upd (upd s.tmps d1 .junk) d2 (.sc (.bool true)), s.hp.setS tk (.iter m (pre ++ [(k, v)]))⟩ Q) :
    AWP P n (.seq (.region id #[⟨some d1, .next (.tmp x) false, ty1, q1, a1, none⟩, ⟨some d2, .extract (.tmp d1) 0, ty2, q2, a2, none⟩] false) rest) s Q := by
  intro E w0 Z0 ρ a w R F hF fm
  have hv := R.tmps x
  rw [hd] at hv
  obtain ⟨b, e4, r1⟩ : ∃ b, a.tmps.getD x undef = .pointer (some ⟨b, 0, none⟩) ∧ ρ tk = some (b, 0) := by
    generalize a.tmps.getD x undef = u at hv
    cases hv with | itr _ b hr => exact ⟨b, rfl, hr⟩
  obtain ⟨b0, obj, g1, g2, g3, mb, seen, es, clk, rfl, g4, g5, g6, g7⟩ := R.heap.slive tk _ hb
  rw [r1] at g1; cases g1
  refine wpIn_seq (wpIn_region_list ?_)
  refine wpListIn_step (fun K hK => ?_)
  have hd1 : d1 < a.tmps.size := by rw [R.size]; exact hn1
  have hd2 : d2 < a.tmps.size := by rw [R.size]; exact hn2
  simp only [Region.wanted, if_true]
  rcases run_iter (P := P) (ty := ty1) g3 g6 g7 with ⟨q3, hrun⟩ | ⟨k, v, sn, w1, q3, q4, q5, q6, hrun⟩
  · refine op_in hF (fun _ hh => by cases hh) (wp_val (u := .tuple #[.bool false]) (w' := w) ?_ (hK _ _ ?_))
    · simp only [execOp, Act.eval, e4, Sem.run_bind, hrun, Result.andThen_ok, Sem.run_pure]
    refine wpListIn_step (fun K2 hK2 => ?_)
    simp only [Region.wanted, if_true]
    refine op_in hF (fun _ hh => by cases hh) (wp_val (u := .bool false) (w' := w) ?_ (hK2 _ _ ?_))
    · simp [execOp, Act.eval, Act.put, Instr.extract, hd1]
    · have R1 := (R.put (d := some d1) (v := .junk) (u := .tuple #[.bool false]) R.heap (fun _ _ h => h) (fun y hy => by cases hy; exact hn1) (.junk _))
      have R2 := (R1.put (d := some d2) (v := .sc (.bool false)) (u := .bool false) R1.heap (fun _ _ h => h) (fun y hy => by cases hy; exact hn2) (.sc _))
      exact h1 q3 E w0 Z0 ρ _ w R2 F hF fm
  · have hbz : ¬ Zof Z0 ρ s.hp mb := g4
    have hne : mb ≠ b := fun e => by subst e; exact g4 (.inr (.inr ⟨tk, _, hb, r1⟩))
    have hw1 : w1.heap = w.heap := by rcases q6 with rfl | rfl <;> rfl
    have Rw : Rel E w0 Z0 ρ n s a w1 := by
      rcases q6 with rfl | rfl
      · exact R
      · exact drew_rel R
    obtain ⟨H', up⟩ := Rw.heap.writeS hb r1 (c' := .iter m (pre ++ [(k, v)])) (obj' := .mapIter (some mb) clk (seen.push sn) clk) ⟨mb, _, es, clk, rfl, g4, by rw [hw1]; exact g5, by rw [hw1]; exact g6, q5⟩
    refine op_in hF (fun _ hh => by cases hh) (wp_val (u := .tuple #[.bool true, .int .i64 k, v]) (w' := Go.ChangeMaps.setBlock w1 b (.mapIter (some mb) clk (seen.push sn) clk)) ?_ (hK _ _ ?_))
    · simp only [execOp, Act.eval, e4, Sem.run_bind, hrun, Result.andThen_ok, Sem.run_pure]
    refine wpListIn_step (fun K2 hK2 => ?_)
    simp only [Region.wanted, if_true]
    refine op_in hF (fun _ hh => by cases hh) (wp_val (u := .bool true) (w' := Go.ChangeMaps.setBlock w1 b (.mapIter (some mb) clk (seen.push sn) clk)) ?_ (hK2 _ _ ?_))
    · simp [execOp, Act.eval, Act.put, Instr.extract, hd1]
    · have R1 := (Rw.put (d := some d1) (v := .junk) (u := .tuple #[.bool true, .int .i64 k, v]) H' up (fun y hy => by cases hy; exact hn1) (.junk _))
      have R2 := (R1.put (d := some d2) (v := .sc (.bool true)) (u := .bool true) R1.heap (fun _ _ h => h) (fun y hy => by cases hy; exact hn2) (.sc _))
      exact h2 k v q3 q4 E w0 Z0 ρ _ _ R2 F hF fm
theorem SC.weak {f : FuncId} {args args' : List PV} {r : PV} (h : SC P f args' r) (e : args.map PV.nrm = args') : SC P f args r := by
  subst e
  refine ⟨h.1, fun Z w vs hz hl hv => h.2 Z w vs hz (by simpa using hl) (fun i hi => ?_)⟩
  have hi' : i < args.length := by simpa using hi
  have e1 : (args.map PV.nrm).getD i .junk = (args.getD i .junk).nrm := by simp [List.getD, hi']
  rw [e1]; exact (hv i hi').nrm
def lenOk : PV → Prop
  | .lst _ _ n _ => n ≤ 9223372036854775807
  | _ => True
theorem SC.len {f : FuncId} {args : List PV} {r : PV} (hc : Callable P f) (h : (∀ p ∈ args, lenOk p) → SC P f args r) : SC P f args r := by
  refine ⟨hc, fun Z w vs hz hl hv => (h (fun p hp => ?_)).2 Z w vs hz hl hv⟩
  obtain ⟨i, hi, rfl⟩ := List.getElem_of_mem hp
  have := hv i hi
  rw [show args.getD i .junk = args[i] by simp [List.getD, hi]] at this
  unfold lenOk
  split
  · rename_i c sz n cs e
    rw [e] at this
    obtain ⟨cap, A, f, _, g1, g2, g3, _⟩ := this.lst_inv
    unfold maxLen at g3; omega
  · trivial
end Go.Proofs.YtkmkcbkfakoomaaDoor
