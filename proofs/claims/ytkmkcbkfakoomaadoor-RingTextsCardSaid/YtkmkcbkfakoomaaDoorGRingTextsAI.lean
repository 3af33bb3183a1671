/- Facts and contracts that the claim uses. No condition of its own. -/
import Derived.Test.YtkmkcbkfakoomaaDoorGRingTextsAH
set_option linter.unusedVariables false
set_option linter.unusedSimpArgs false
namespace Go.Proofs.YtkmkcbkfakoomaaDoor
open Go.RowKit
def HP.set (h : HP) (t : Nat) (cs : List PV) : HP := ⟨fun x => bif Nat.beq x t then some cs else h.blk x, h.next, h.sp, h.win⟩
def HP.kill (h : HP) (t : Nat) : HP := ⟨fun x => bif Nat.beq x t then none else h.blk x, h.next, h.sp, h.win⟩
def HP.tok (h : HP) (b : Bool) : Nat := 2 * h.next + (if b then 1 else 0)
def HP.add (h : HP) (b : Bool) (cs : List PV) : HP := ⟨fun x => bif Nat.beq x (h.tok b) then some cs else h.blk x, h.next + 1, h.sp, h.win⟩
def HP.setS (h : HP) (t : Nat) (c : SpC) : HP := ⟨h.blk, h.next, fun x => bif Nat.beq x t then some c else h.sp x, h.win⟩
def HP.killS (h : HP) (t : Nat) : HP := ⟨h.blk, h.next, fun x => bif Nat.beq x t then none else h.sp x, h.win⟩
def HP.addS (h : HP) (b : Bool) (c : SpC) : HP := ⟨h.blk, h.next + 1, fun x => bif Nat.beq x (h.tok b) then some c else h.sp x, h.win⟩
def HP.put (h : HP) (t : Nat) (cs : List PV) : HP := ⟨fun x => bif Nat.beq x t then some cs else h.blk x, h.next, h.sp, fun x => bif Nat.beq x t then false else h.win x⟩
def HP.putS (h : HP) (t : Nat) (c : SpC) : HP := ⟨h.blk, h.next, fun x => bif Nat.beq x t then some c else h.sp x, fun x => bif Nat.beq x t then false else h.win x⟩
def HP.bump (h : HP) (k : Nat) : HP := ⟨h.blk, h.next + k, h.sp, fun x => h.win x || (Nat.ble (2 * h.next) x && Nat.blt x (2 * (h.next + k)))⟩
theorem beq_of_ne {a b : Nat} (h : a ≠ b) : Nat.beq a b = false := by
  cases hb : Nat.beq a b with
  | false => rfl
  | true => exact absurd (Nat.eq_of_beq_eq_true hb) h
theorem HP.put_same (h : HP) (t : Nat) (cs : List PV) : (h.put t cs).blk t = some cs := by simp [HP.put]
theorem HP.put_other (h : HP) {t x : Nat} (cs : List PV) (e : x ≠ t) : (h.put t cs).blk x = h.blk x := by simp [HP.put, beq_of_ne e]
theorem HP.put_win {h : HP} {t x : Nat} {cs : List PV} (e : (h.put t cs).win x = true) : x ≠ t ∧ h.win x = true := by
  by_cases hx : x = t
  · subst hx; simp [HP.put] at e
  · simp [HP.put, beq_of_ne hx] at e; exact ⟨hx, e⟩
theorem HP.put_keep {h : HP} {t x : Nat} {cs : List PV} (e : x ≠ t) (hw : h.win x = true) : (h.put t cs).win x = true := by simp [HP.put, beq_of_ne e, hw]
theorem HP.put_comm {h : HP} {t t' : Nat} {cs cs' : List PV} (e : t ≠ t') : (h.put t cs).put t' cs' = (h.put t' cs').put t cs := by
  unfold HP.put
  congr 1
  · funext x
    by_cases h1 : x = t
    · subst h1; simp [beq_of_ne e]
    · simp [beq_of_ne h1]
  · funext x
    by_cases h1 : x = t
    · subst h1; simp [beq_of_ne e]
    · simp [beq_of_ne h1]
theorem HP.putS_same (h : HP) (t : Nat) (c : SpC) : (h.putS t c).sp t = some c := by simp [HP.putS]
theorem HP.putS_other (h : HP) {t x : Nat} (c : SpC) (e : x ≠ t) : (h.putS t c).sp x = h.sp x := by simp [HP.putS, beq_of_ne e]
theorem HP.putS_win {h : HP} {t x : Nat} {c : SpC} (e : (h.putS t c).win x = true) : x ≠ t ∧ h.win x = true := by
  by_cases hx : x = t
  · subst hx; simp [HP.putS] at e
  · simp [HP.putS, beq_of_ne hx] at e; exact ⟨hx, e⟩
theorem HP.putS_keep {h : HP} {t x : Nat} {c : SpC} (e : x ≠ t) (hw : h.win x = true) : (h.putS t c).win x = true := by simp [HP.putS, beq_of_ne e, hw]
theorem sp_comm {f : Nat → Option SpC} {t t' : Nat} {c c' : SpC} (e : t ≠ t') : (fun x => bif Nat.beq x t' then some c' else bif Nat.beq x t then some c else f x) = fun x => bif Nat.beq x t then some c else bif Nat.beq x t' then some c' else f x := by
  funext x
  by_cases h1 : x = t
  · subst h1; simp [beq_of_ne e]
  · simp [beq_of_ne h1]
theorem HP.putS_comm {h : HP} {t t' : Nat} {c c' : SpC} (e : t ≠ t') : (h.putS t c).putS t' c' = (h.putS t' c').putS t c := by
  unfold HP.putS
  congr 1
  · exact sp_comm e
  · funext x
    by_cases h1 : x = t
    · subst h1; simp [beq_of_ne e]
    · simp [beq_of_ne h1]
theorem HP.putS_setS {h : HP} {t t' : Nat} {c c' : SpC} (e : t ≠ t') : (h.putS t c).setS t' c' = (h.setS t' c').putS t c := by
  unfold HP.putS HP.setS
  congr 1
  exact sp_comm e
theorem HP.setS_comm {h : HP} {t t' : Nat} {c c' : SpC} (e : t ≠ t') : (h.setS t c).setS t' c' = (h.setS t' c').setS t c := by
  unfold HP.setS
  congr 1
  exact sp_comm e
theorem HP.setS_setS {h : HP} {t : Nat} {c c' : SpC} : (h.setS t c).setS t c' = h.setS t c' := by
  unfold HP.setS
  congr 1
  funext x
  cases hb : Nat.beq x t <;> simp [hb]
theorem HP.set_same (h : HP) (t : Nat) (cs : List PV) : (h.set t cs).blk t = some cs := by simp [HP.set]
theorem HP.set_self {h : HP} {t : Nat} {cs : List PV} (e : h.blk t = some cs) : h.set t cs = h := by
  obtain ⟨b, n, sp⟩ := h
  simp only [HP.set, HP.mk.injEq, and_true]
  funext x
  by_cases hx : x = t
  · subst hx
    have e' : b x = some cs := e
    simp [e']
  · rw [beq_of_ne hx]; rfl
theorem HP.set_other (h : HP) {t x : Nat} (cs : List PV) (e : x ≠ t) : (h.set t cs).blk x = h.blk x := by simp [HP.set, beq_of_ne e]
theorem HP.kill_same (h : HP) (t : Nat) : (h.kill t).blk t = none := by simp [HP.kill]
theorem HP.kill_other (h : HP) {t x : Nat} (e : x ≠ t) : (h.kill t).blk x = h.blk x := by simp [HP.kill, beq_of_ne e]
theorem HP.add_same (h : HP) (b : Bool) (cs : List PV) : (h.add b cs).blk (h.tok b) = some cs := by simp [HP.add]
theorem HP.tok_ge (h : HP) (b : Bool) : 2 * h.next ≤ h.tok b ∧ h.tok b < 2 * h.next + 2 := by unfold HP.tok; split <;> omega
theorem HP.add_other (h : HP) {x : Nat} (b : Bool) (cs : List PV) (e : x ≠ h.tok b) : (h.add b cs).blk x = h.blk x := by simp [HP.add, beq_of_ne e]
theorem HP.setS_same (h : HP) (t : Nat) (c : SpC) : (h.setS t c).sp t = some c := by simp [HP.setS]
theorem HP.setS_other (h : HP) {t x : Nat} (c : SpC) (e : x ≠ t) : (h.setS t c).sp x = h.sp x := by simp [HP.setS, beq_of_ne e]
theorem HP.killS_other (h : HP) {t x : Nat} (e : x ≠ t) : (h.killS t).sp x = h.sp x := by simp [HP.killS, beq_of_ne e]
theorem HP.addS_same (h : HP) (b : Bool) (c : SpC) : (h.addS b c).sp (h.tok b) = some c := by simp [HP.addS]
theorem HP.addS_other (h : HP) {x : Nat} (b : Bool) (c : SpC) (e : x ≠ h.tok b) : (h.addS b c).sp x = h.sp x := by simp [HP.addS, beq_of_ne e]
theorem HP.killS_some {h : HP} {t x : Nat} {c : SpC} (e : (h.killS t).sp x = some c) : x ≠ t ∧ h.sp x = some c := by
  by_cases he : x = t
  · subst he; simp [HP.killS] at e
  · rw [HP.killS_other _ he] at e; exact ⟨he, e⟩
theorem HP.kill_some {h : HP} {t x : Nat} {cs : List PV} (e : (h.kill t).blk x = some cs) : x ≠ t ∧ h.blk x = some cs := by
  by_cases he : x = t
  · subst he; rw [HP.kill_same] at e; cases e
  · rw [HP.kill_other _ he] at e; exact ⟨he, e⟩
variable {w0 : World} {Z0 : Nat → Prop} {ρ : Pl} {h : HP} {w : World}
theorem HRel.write (H : HRel w0 Z0 ρ h w) {tk : Nat} {cs : List PV} {b o : Nat} {arr : Array Value} {T : TypeId} (ht : h.blk tk = some cs) (hr : ρ tk = some (b, o))
    (hb : w.heap[b]? = some (.cells arr T (0, 0))) (arr' : Array Value) (hsz : arr'.size = arr.size) (cs' : List PV) (hl : o + cs'.length ≤ arr.size)
    (hv : ∀ i, i < cs'.length → V ρ (Zof Z0 ρ h) w (cs'.getD i .junk) (arr'.getD (o + i) undef)) :
    HRel w0 Z0 ρ (h.set tk cs') (w.setRow b arr') ∧ ∀ pv u, V ρ (Zof Z0 ρ h) w pv u → V ρ (Zof Z0 ρ (h.set tk cs')) (w.setRow b arr') pv u := by
  have hZ : ∀ k, Zof Z0 ρ (h.set tk cs') k → Zof Z0 ρ h k := by
    rintro k (hk | ⟨t, c, o', h1, h2⟩ | hk)
    · exact .inl hk
    · by_cases e : t = tk
      · subst e; exact .inr (.inl ⟨t, cs, o', ht, h2⟩)
      · rw [HP.set_other _ _ e] at h1; exact .inr (.inl ⟨t, c, o', h1, h2⟩)
    · exact .inr (.inr hk)
  have he : Ext (Zof Z0 ρ h) w (w.setRow b arr') := by
    refine ⟨by simp, fun k hk hz => ?_, fun k a T' hk => ?_⟩
    · exact setRow_other _ _ _ _ (fun e => hz (.inr (.inl ⟨tk, cs, o, ht, e ▸ hr⟩)))
    · by_cases e : k = b
      · subst e
        rw [hb] at hk; cases hk
        exact ⟨arr', setRow_heap _ _ _ _ _ _ hb, hsz⟩
      · exact ⟨a, by rw [setRow_other _ _ _ _ e]; exact hk, rfl⟩
  have up : ∀ pv u, V ρ (Zof Z0 ρ h) w pv u → V ρ (Zof Z0 ρ (h.set tk cs')) (w.setRow b arr') pv u := fun pv u hV => hV.ext he (fun k _ hk => hZ k hk) (fun _ _ h => h)
  rcases H.live tk cs ht with ⟨_, e1⟩ | ⟨b1, o1, a1, T1, e1, e2, e3, e4, e5⟩
  · rw [hr] at e1; cases e1
  rw [hr] at e1; cases e1
  refine ⟨⟨H.below.trans ⟨rfl, rfl, rfl, by simp, fun k hk => setRow_other _ _ _ _ (by omega)⟩, H.z0, fun t c h1 => ?_, fun t t' c c' k o1 o2 h1 h2 r1 r2 => ?_, fun t ht' => ?_, fun t c h1 => ?_, H.sinj, fun t hw => ?_⟩, up⟩
  · by_cases e : t = tk
    · subst e
      rw [HP.set_same] at h1; cases h1
      exact .inr ⟨b, o, arr', T, hr, e2, setRow_heap _ _ _ _ _ _ hb, by omega, fun i hi => up _ _ (hv i hi)⟩
    · rw [HP.set_other _ _ e] at h1
      rcases H.live t c h1 with hn | ⟨b2, o2, a2, T2, g1, g2, g3, g4, g5⟩
      · exact .inl hn
      have hne : b2 ≠ b := fun hbb => e (H.inj t tk c cs b2 o2 o h1 ht g1 (hbb ▸ hr))
      exact .inr ⟨b2, o2, a2, T2, g1, g2, by rw [setRow_other _ _ _ _ hne]; exact g3, g4, fun i hi => up _ _ (g5 i hi)⟩
  · have f : ∀ t c, (h.set tk cs').blk t = some c → ∃ c', h.blk t = some c' := fun t c hc => by
      by_cases e : t = tk
      · exact ⟨cs, e ▸ ht⟩
      · rw [HP.set_other _ _ e] at hc; exact ⟨c, hc⟩
    obtain ⟨d1, k1⟩ := f t c h1
    obtain ⟨d2, k2⟩ := f t' c' h2
    exact H.inj t t' d1 d2 k o1 o2 k1 k2 r1 r2
  · have := H.free t ht'
    have e : t ≠ tk := fun e => by rw [e, ht] at this; cases this.1
    exact ⟨by rw [HP.set_other _ _ e]; exact this.1, this.2⟩
  · obtain ⟨b2, obj, g1, g2, g3, g4⟩ := H.slive t c h1
    have hne : b2 ≠ b := fun hbb => by subst hbb; exact H.apart h1 g1 hb
    exact ⟨b2, obj, g1, g2, by rw [setRow_other _ _ _ _ hne]; exact g3, g4.ext he (fun k _ hk => hZ k hk) (fun _ _ h => h)⟩
  · obtain ⟨q1, q2, q3⟩ := H.wfree t hw
    exact ⟨by rw [HP.set_other _ _ (fun e => by rw [e, ht] at q1; cases q1)]; exact q1, q2, q3⟩
theorem HRel.kill (H : HRel w0 Z0 ρ h w) (tk : Nat) : HRel w0 Z0 ρ (h.kill tk) w ∧ ∀ pv u, V ρ (Zof Z0 ρ h) w pv u → V ρ (Zof Z0 ρ (h.kill tk)) w pv u := by
  have up : ∀ pv u, V ρ (Zof Z0 ρ h) w pv u → V ρ (Zof Z0 ρ (h.kill tk)) w pv u := fun pv u hV => hV.ext (Ext.refl _ _) (fun k _ hk => by
    rcases hk with hk | ⟨t, c, o, h1, h2⟩ | hk
    · exact .inl hk
    · exact .inr (.inl ⟨t, c, o, (HP.kill_some h1).2, h2⟩)
    · exact .inr (.inr hk)) (fun _ _ h => h)
  refine ⟨⟨H.below, H.z0, fun t c h1 => ?_, fun t t' c c' k o1 o2 h1 h2 r1 r2 => H.inj t t' c c' k o1 o2 (HP.kill_some h1).2 (HP.kill_some h2).2 r1 r2, fun t ht => ?_, fun t c h1 => ?_, H.sinj, fun t hw => ?_⟩, up⟩
  · rcases H.live t c (HP.kill_some h1).2 with hn | ⟨b2, o2, a2, T2, g1, g2, g3, g4, g5⟩
    · exact .inl hn
    exact .inr ⟨b2, o2, a2, T2, g1, g2, g3, g4, fun i hi => up _ _ (g5 i hi)⟩
  · have := H.free t ht
    refine ⟨?_, this.2⟩
    by_cases e : t = tk
    · rw [e, HP.kill_same]
    · rw [HP.kill_other _ e]; exact this.1
  · obtain ⟨b2, obj, g1, g2, g3, g4⟩ := H.slive t c h1
    refine ⟨b2, obj, g1, g2, g3, g4.ext (Ext.refl _ _) (fun k _ hk => ?_) (fun _ _ h => h)⟩
    rcases hk with hk | ⟨t, c, o, h1, h2⟩ | hk
    · exact .inl hk
    · exact .inr (.inl ⟨t, c, o, (HP.kill_some h1).2, h2⟩)
    · exact .inr (.inr hk)
  · obtain ⟨q1, q2, q3⟩ := H.wfree t hw
    refine ⟨?_, q2, q3⟩
    by_cases e : t = tk
    · rw [e, HP.kill_same]
    · rw [HP.kill_other _ e]; exact q1
theorem HRel.nameG (H : HRel w0 Z0 ρ h w) {b o : Nat} {arr : Array Value} {T : TypeId} (hb : w.heap[b]? = some (.cells arr T (0, 0))) (hlow : w0.heap.size ≤ b)
    (hz : ¬ Zof Z0 ρ h b) (P' : PV → Value → Prop) (hP : ∀ pv u, P' pv u → V ρ (fun k => Zof Z0 ρ h k ∨ k = b) w pv u)
    (hall : ∀ t c, h.blk t = some c → ∀ b o, ρ t = some (b, o) → ∀ arr T, w.heap[b]? = some (.cells arr T (0, 0)) → ∀ i, i < c.length → P' (c.getD i .junk) (arr.getD (o + i) undef))
    (hspc : ∀ t c, h.sp t = some c → ∀ b', ρ t = some (b', 0) → ∀ obj, w.heap[b']? = some obj → Spec ρ (fun k => Zof Z0 ρ h k ∨ k = b) w c obj)
    (h' : HP) (tk : Nat) (cs : List PV) (hsame : h'.blk tk = some cs) (hoth : ∀ t, t ≠ tk → h'.blk t = h.blk t) (hsp : h'.sp = h.sp) (hfree : h.blk tk = none ∧ ρ tk = none) (hnx : h.next ≤ h'.next) (htk : tk < 2 * h'.next) (hwin : ∀ t, h'.win t = true → t ≠ tk ∧ h.win t = true) (hl : o + cs.length ≤ arr.size) (hv : ∀ i, i < cs.length → P' (cs.getD i .junk) (arr.getD (o + i) undef)) :
    ∃ ρ', ρ' tk = some (b, o) ∧ HRel w0 Z0 ρ' h' w ∧ (∀ pv u, P' pv u → V ρ' (Zof Z0 ρ' h') w pv u) := by
  let ρ' : Pl := fun t => bif Nat.beq t tk then some (b, o) else ρ t
  have r1 : ρ' tk = some (b, o) := by simp [ρ']
  have r2 : ∀ t, t ≠ tk → ρ' t = ρ t := fun t e => by simp [ρ', beq_of_ne e]
  have hext : ∀ t p, ρ t = some p → ρ' t = some p := fun t p hp => by
    rw [r2 t (fun e => by rw [e, hfree.2] at hp; cases hp)]; exact hp
  have old : ∀ t c, h.blk t = some c → t ≠ tk := fun t c hc e => by rw [e, hfree.1] at hc; cases hc
  have sold : ∀ t c, h.sp t = some c → t ≠ tk := fun t c hc e => by
    obtain ⟨b2, obj, g1, _⟩ := H.slive t c hc
    rw [e, hfree.2] at g1; cases g1
  have hZ : ∀ k, Zof Z0 ρ' h' k → Zof Z0 ρ h k ∨ k = b := by
    rintro k (hk | ⟨t, c, o', h1, h2⟩ | ⟨t, c, h1, h2⟩)
    · exact .inl (.inl hk)
    · by_cases e : t = tk
      · subst e; rw [r1] at h2; cases h2; exact .inr rfl
      · rw [hoth _ e] at h1
        rw [r2 t e] at h2
        exact .inl (.inr (.inl ⟨t, c, o', h1, h2⟩))
    · rw [hsp] at h1
      rw [r2 t (sold t c h1)] at h2
      exact .inl (.inr (.inr ⟨t, c, h1, h2⟩))
  have up : ∀ pv u, P' pv u → V ρ' (Zof Z0 ρ' h') w pv u := fun pv u hV => (hP _ _ hV).ext (Ext.refl _ _) (fun k _ hk => hZ k hk) hext
  refine ⟨ρ', r1, ⟨H.below, H.z0, fun t c h1 => ?_, fun t t' c c' k o1 o2 h1 h2 p1 p2 => ?_, fun t ht => ?_, fun t c h1 => ?_, fun t t' c c' k h1 h2 p1 p2 => ?_, fun t hw => ?_⟩, up⟩
  · by_cases e : t = tk
    · subst e
      rw [hsame] at h1; cases h1
      exact .inr ⟨b, o, arr, T, r1, hlow, hb, hl, fun i hi => up _ _ (hv i hi)⟩
    · rw [hoth _ e] at h1
      rcases H.live t c h1 with ⟨hn, hn2⟩ | ⟨b2, o2, a2, T2, g1, g2, g3, g4, g5⟩
      · exact .inl ⟨hn, by rw [r2 t e]; exact hn2⟩
      exact .inr ⟨b2, o2, a2, T2, hext _ _ g1, g2, g3, g4, fun i hi => up _ _ (hall t c h1 _ _ g1 _ _ g3 i hi)⟩
  · by_cases e : t = tk
    · by_cases e' : t' = tk
      · rw [e, e']
      · exfalso
        subst e
        rw [hoth _ e'] at h2
        rw [r1] at p1; cases p1
        rw [r2 t' e'] at p2
        exact hz (.inr (.inl ⟨t', c', o2, h2, p2⟩))
    · rw [hoth _ e] at h1
      rw [r2 t e] at p1
      by_cases e' : t' = tk
      · exfalso
        subst e'
        rw [r1] at p2; cases p2
        exact hz (.inr (.inl ⟨t, c, o1, h1, p1⟩))
      · rw [hoth _ e'] at h2
        rw [r2 t' e'] at p2
        exact H.inj t t' c c' k o1 o2 h1 h2 p1 p2
  · have e : t ≠ tk := by omega
    have := H.free t (by omega)
    exact ⟨by rw [hoth _ e]; exact this.1, by rw [r2 t e]; exact this.2⟩
  · rw [hsp] at h1
    obtain ⟨b2, obj, g1, g2, g3, g4⟩ := H.slive t c h1
    exact ⟨b2, obj, hext _ _ g1, g2, g3, (hspc t c h1 b2 g1 obj g3).ext (Ext.refl _ _) (fun k _ hk => hZ k hk) hext⟩
  · rw [hsp] at h1 h2
    rw [r2 t (sold t c h1)] at p1
    rw [r2 t' (sold t' c' h2)] at p2
    exact H.sinj t t' c c' k h1 h2 p1 p2
  · obtain ⟨n1, n2⟩ := hwin t hw
    obtain ⟨q1, q2, q3⟩ := H.wfree t n2
    exact ⟨by rw [hoth _ n1]; exact q1, by rw [r2 t n1]; exact q2, by omega⟩
theorem HRel.name (H : HRel w0 Z0 ρ h w) {b o : Nat} {arr : Array Value} {T : TypeId} (hb : w.heap[b]? = some (.cells arr T (0, 0))) (hlow : w0.heap.size ≤ b)
    (hz : ¬ Zof Z0 ρ h b) (P' : PV → Value → Prop) (hP : ∀ pv u, P' pv u → V ρ (fun k => Zof Z0 ρ h k ∨ k = b) w pv u)
    (hall : ∀ t c, h.blk t = some c → ∀ b o, ρ t = some (b, o) → ∀ arr T, w.heap[b]? = some (.cells arr T (0, 0)) → ∀ i, i < c.length → P' (c.getD i .junk) (arr.getD (o + i) undef))
    (hspc : ∀ t c, h.sp t = some c → ∀ b', ρ t = some (b', 0) → ∀ obj, w.heap[b']? = some obj → Spec ρ (fun k => Zof Z0 ρ h k ∨ k = b) w c obj)
    (cb : Bool) (cs : List PV) (hl : o + cs.length ≤ arr.size) (hv : ∀ i, i < cs.length → P' (cs.getD i .junk) (arr.getD (o + i) undef)) :
    ∃ ρ', ρ' (h.tok cb) = some (b, o) ∧ HRel w0 Z0 ρ' (h.add cb cs) w ∧ (∀ pv u, P' pv u → V ρ' (Zof Z0 ρ' (h.add cb cs)) w pv u) := by
  have hfree := H.free (h.tok cb) (h.tok_ge cb).1
  exact H.nameG hb hlow hz P' hP hall hspc (h.add cb cs) (h.tok cb) cs (HP.add_same _ _ _) (fun t e => HP.add_other _ _ _ e) rfl hfree (Nat.le_succ _) (by have := h.tok_ge cb; show _ < 2 * (h.next + 1); omega) (fun t hw => ⟨fun e => by have := (H.wfree t hw).2.2; have := (h.tok_ge cb).1; omega, hw⟩) hl hv
theorem HRel.alloc (H : HRel w0 Z0 ρ h w) (cb : Bool) (arr : Array Value) (T : TypeId) (cs : List PV) (hl : cs.length ≤ arr.size)
    (hv : ∀ i, i < cs.length → V ρ (Zof Z0 ρ h) w (cs.getD i .junk) (arr.getD i undef)) :
    ∃ ρ', ρ' (h.tok cb) = some (w.heap.size, 0) ∧ HRel w0 Z0 ρ' (h.add cb cs) (w.alloc (.cells arr T)) ∧
      ∀ pv u, V ρ (Zof Z0 ρ h) w pv u → V ρ' (Zof Z0 ρ' (h.add cb cs)) (w.alloc (.cells arr T)) pv u := by
  have hbw : Below w.heap.size w (w.alloc (.cells arr T)) := (Below.refl _ _).alloc (Nat.le_refl _) _
  have H' := H.step hbw
  have hnew : (w.alloc (.cells arr T)).heap[w.heap.size]? = some (.cells arr T (0, 0)) := by
    show (w.heap.push _)[w.heap.size]? = _
    simp
  have key : ∀ pv u, V ρ (Zof Z0 ρ h) w pv u → V ρ (fun k => Zof Z0 ρ h k ∨ k = w.heap.size) (w.alloc (.cells arr T)) pv u := fun pv u hV =>
    hV.ext (Ext.of_below hbw) (fun k hk hz => hz.resolve_right (by omega)) (fun _ _ h => h)
  obtain ⟨ρ', r1, r2, r3⟩ := H'.name hnew H.below.size (fun hz => Nat.lt_irrefl _ (H.zlt _ hz)) (fun pv u => V ρ (Zof Z0 ρ h) w pv u) key
    (fun t c hc b o hr arr2 T2 hb2 i hi => by
      rcases H.live t c hc with ⟨_, g1⟩ | ⟨b2, o2, a2, T2', g1, g2, g3, g4, g5⟩
      · rw [hr] at g1; cases g1
      rw [hr] at g1; cases g1
      rw [hbw.block b (lt_of_heap g3), g3] at hb2; cases hb2
      exact g5 i hi) (fun t c hc b' hr obj hb2 => by
      obtain ⟨b2, obj2, g1, g2, g3, g4⟩ := H.slive t c hc
      rw [hr] at g1; cases g1
      rw [hbw.block b' (lt_of_heap g3), g3] at hb2; cases hb2
      exact g4.ext (Ext.of_below hbw) (fun k hk hz => hz.resolve_right (by omega)) (fun _ _ h => h)) (o := 0) cb cs (by omega) (fun i hi => by rw [Nat.zero_add]; exact hv i hi)
  exact ⟨ρ', r1, r2, r3⟩
theorem HRel.rename (cb : Bool) (H : HRel w0 Z0 ρ h w) {tk : Nat} {cs : List PV} {b o : Nat} (ht : h.blk tk = some cs) (hr : ρ tk = some (b, o)) (off : Nat) (ho : off ≤ cs.length) :
    ∃ ρ', ρ' ((h.kill tk).tok cb) = some (b, o + off) ∧ HRel w0 Z0 ρ' ((h.kill tk).add cb (cs.drop off)) w ∧ ∀ pv u, V ρ (Zof Z0 ρ h) w pv u → V ρ' (Zof Z0 ρ' ((h.kill tk).add cb (cs.drop off))) w pv u := by
  rcases H.live tk cs ht with ⟨_, e1⟩ | ⟨b1, o1, arr, T, e1, e2, e3, e4, e5⟩
  · rw [hr] at e1; cases e1
  rw [hr] at e1; cases e1
  obtain ⟨H1, u1⟩ := H.kill tk
  have hz : ¬ Zof Z0 ρ (h.kill tk) b := by
    rintro (hk | ⟨t, c, o', h1, h2⟩ | ⟨t, c, h1, h2⟩)
    · have := H.z0 b hk; omega
    · obtain ⟨n1, n2⟩ := HP.kill_some h1
      exact n1 (H.inj t tk c cs b o' o n2 ht h2 hr)
    · exact H.apart h1 h2 e3
  obtain ⟨ρ', r1, r2, r3⟩ := H1.name e3 e2 hz (fun pv u => V ρ (Zof Z0 ρ h) w pv u)
    (fun pv u hV => hV.ext (Ext.refl _ _) (fun k hk hz => by
      rcases hz with hz | rfl
      · rcases hz with hz | ⟨t, c, o', h1, h2⟩ | hz
        · exact .inl hz
        · exact .inr (.inl ⟨t, c, o', (HP.kill_some h1).2, h2⟩)
        · exact .inr (.inr hz)
      · exact .inr (.inl ⟨tk, cs, o, ht, hr⟩)) (fun _ _ h => h))
    (fun t c hc b' o' hr' arr2 T2 hb2 i hi => by
      rcases H.live t c (HP.kill_some hc).2 with ⟨_, g1⟩ | ⟨b2, o2, a2, T2', g1, g2, g3, g4, g5⟩
      · rw [hr'] at g1; cases g1
      rw [hr'] at g1; cases g1
      rw [g3] at hb2; cases hb2
      exact g5 i hi) (fun t c hc b' hr' obj hb2 => by
      obtain ⟨b2, obj2, g1, g2, g3, g4⟩ := H.slive t c hc
      rw [hr'] at g1; cases g1
      rw [g3] at hb2; cases hb2
      exact g4.ext (Ext.refl _ _) (fun k _ hz => by
        rcases hz with hz | rfl
        · rcases hz with hz | ⟨t, c, o', h1, h2⟩ | hz
          · exact .inl hz
          · exact .inr (.inl ⟨t, c, o', (HP.kill_some h1).2, h2⟩)
          · exact .inr (.inr hz)
        · exact .inr (.inl ⟨tk, cs, o, ht, hr⟩)) (fun _ _ h => h)) (o := o + off) cb (cs.drop off) (by simp; omega) (fun i hi => by
      have hi' : off + i < cs.length := by simp at hi; omega
      have := e5 (off + i) hi'
      rw [Nat.add_assoc]
      have e : (cs.drop off).getD i .junk = cs.getD (off + i) .junk := by simp [List.getD, List.getElem?_drop]
      rw [e]; exact this)
  exact ⟨ρ', r1, r2, r3⟩
theorem HRel.empty (H : HRel w0 Z0 ρ h w) (cb : Bool) : HRel w0 Z0 ρ (h.add cb []) w ∧ ∀ pv u, V ρ (Zof Z0 ρ h) w pv u → V ρ (Zof Z0 ρ (h.add cb [])) w pv u := by
  have hfree := H.free (h.tok cb) (h.tok_ge cb).1
  have up : ∀ pv u, V ρ (Zof Z0 ρ h) w pv u → V ρ (Zof Z0 ρ (h.add cb [])) w pv u := fun pv u hV => hV.ext (Ext.refl _ _) (fun k _ hk => by
    rcases hk with hk | ⟨t, c, o, h1, h2⟩ | hk
    · exact .inl hk
    · by_cases e : t = h.tok cb
      · subst e; rw [hfree.2] at h2; cases h2
      · rw [HP.add_other _ _ _ e] at h1; exact .inr (.inl ⟨t, c, o, h1, h2⟩)
    · exact .inr (.inr hk)) (fun _ _ h => h)
  refine ⟨⟨H.below, H.z0, fun t c h1 => ?_, fun t t' c c' k o1 o2 h1 h2 p1 p2 => ?_, fun t ht => ?_, fun t c h1 => ?_, H.sinj, fun t hw => ?_⟩, up⟩
  · by_cases e : t = h.tok cb
    · subst e
      rw [HP.add_same] at h1; cases h1
      exact .inl ⟨rfl, hfree.2⟩
    · rw [HP.add_other _ _ _ e] at h1
      rcases H.live t c h1 with hn | ⟨b2, o2, a2, T2, g1, g2, g3, g4, g5⟩
      · exact .inl hn
      exact .inr ⟨b2, o2, a2, T2, g1, g2, g3, g4, fun i hi => up _ _ (g5 i hi)⟩
  · have e : t ≠ h.tok cb := fun e => by rw [e, hfree.2] at p1; cases p1
    have e' : t' ≠ h.tok cb := fun e => by rw [e, hfree.2] at p2; cases p2
    rw [HP.add_other _ _ _ e] at h1
    rw [HP.add_other _ _ _ e'] at h2
    exact H.inj t t' c c' k o1 o2 h1 h2 p1 p2
  · have hge : 2 * (h.next + 1) ≤ t := ht
    have e : t ≠ h.tok cb := by have := h.tok_ge cb; omega
    have := H.free t (by omega)
    exact ⟨by rw [HP.add_other _ _ _ e]; exact this.1, this.2⟩
  · obtain ⟨b2, obj, g1, g2, g3, g4⟩ := H.slive t c h1
    refine ⟨b2, obj, g1, g2, g3, g4.ext (Ext.refl _ _) (fun k _ hk => ?_) (fun _ _ h => h)⟩
    rcases hk with hk | ⟨t, c, o, h1, h2⟩ | hk
    · exact .inl hk
    · by_cases e : t = h.tok cb
      · subst e; rw [hfree.2] at h2; cases h2
      · rw [HP.add_other _ _ _ e] at h1; exact .inr (.inl ⟨t, c, o, h1, h2⟩)
    · exact .inr (.inr hk)
  · obtain ⟨q1, q2, q3⟩ := H.wfree t hw
    have hne : t ≠ h.tok cb := fun e => by have := (h.tok_ge cb).1; omega
    exact ⟨by rw [HP.add_other _ _ _ hne]; exact q1, q2, by show t < 2 * (h.next + 1); omega⟩
theorem HRel.allocS (H : HRel w0 Z0 ρ h w) (cb : Bool) (c : SpC) (obj : Obj) (hs : Spec ρ (Zof Z0 ρ h) w c obj) :
    ∃ ρ', ρ' (h.tok cb) = some (w.heap.size, 0) ∧ HRel w0 Z0 ρ' (h.addS cb c) (w.alloc obj) ∧ ∀ pv u, V ρ (Zof Z0 ρ h) w pv u → V ρ' (Zof Z0 ρ' (h.addS cb c)) (w.alloc obj) pv u := by
  have hbw : Below w.heap.size w (w.alloc obj) := (Below.refl _ _).alloc (Nat.le_refl _) _
  have H' := H.step hbw
  have hnew : (w.alloc obj).heap[w.heap.size]? = some obj := by
    show (w.heap.push _)[w.heap.size]? = _
    simp
  have hfree := H.free (h.tok cb) (h.tok_ge cb).1
  let ρ' : Pl := fun t => bif Nat.beq t (h.tok cb) then some (w.heap.size, 0) else ρ t
  have r1 : ρ' (h.tok cb) = some (w.heap.size, 0) := by simp [ρ']
  have r2 : ∀ t, t ≠ h.tok cb → ρ' t = ρ t := fun t e => by simp [ρ', beq_of_ne e]
  have hext : ∀ t p, ρ t = some p → ρ' t = some p := fun t p hp => by
    rw [r2 t (fun e => by rw [e, hfree.2] at hp; cases hp)]; exact hp
  have old : ∀ t c, h.blk t = some c → t ≠ h.tok cb := fun t c hc e => by rw [e, hfree.1] at hc; cases hc
  have sold : ∀ t c, h.sp t = some c → t ≠ h.tok cb := fun t c hc e => by
    obtain ⟨b2, obj, g1, _⟩ := H.slive t c hc
    rw [e, hfree.2] at g1; cases g1
  have hZ : ∀ k, Zof Z0 ρ' (h.addS cb c) k → Zof Z0 ρ h k ∨ k = w.heap.size := by
    rintro k (hk | ⟨t, c', o', h1, h2⟩ | ⟨t, c', h1, h2⟩)
    · exact .inl (.inl hk)
    · have h1' : h.blk t = some c' := h1
      rw [r2 t (old t c' h1')] at h2
      exact .inl (.inr (.inl ⟨t, c', o', h1', h2⟩))
    · by_cases e : t = h.tok cb
      · subst e; rw [r1] at h2; cases h2; exact .inr rfl
      · rw [HP.addS_other _ _ _ e] at h1
        rw [r2 t e] at h2
        exact .inl (.inr (.inr ⟨t, c', h1, h2⟩))
  have up : ∀ pv u, V ρ (Zof Z0 ρ h) w pv u → V ρ' (Zof Z0 ρ' (h.addS cb c)) (w.alloc obj) pv u := fun pv u hV => hV.ext (Ext.of_below hbw) (fun k hk hz => (hZ k hz).resolve_right (by omega)) hext
  have upS : ∀ c' o', Spec ρ (Zof Z0 ρ h) w c' o' → Spec ρ' (Zof Z0 ρ' (h.addS cb c)) (w.alloc obj) c' o' := fun c' o' hh => hh.ext (Ext.of_below hbw) (fun k hk hz' => (hZ k hz').resolve_right (by omega)) hext
  refine ⟨ρ', r1, ⟨H'.below, H.z0, fun t cs h1 => ?_, fun t t' cs cs' k o1 o2 h1 h2 p1 p2 => ?_, fun t ht => ?_, fun t c' h1 => ?_, fun t t' c1 c2 k h1 h2 p1 p2 => ?_, fun t hw => ?_⟩, up⟩
  · have h1' : h.blk t = some cs := h1
    rcases H.live t cs h1' with ⟨hn, hn2⟩ | ⟨b2, o2, a2, T2, g1, g2, g3, g4, g5⟩
    · exact .inl ⟨hn, by rw [r2 t (old t cs h1')]; exact hn2⟩
    · exact .inr ⟨b2, o2, a2, T2, hext _ _ g1, g2, by rw [hbw.block b2 (lt_of_heap g3)]; exact g3, g4, fun i hi => up _ _ (g5 i hi)⟩
  · have h1' : h.blk t = some cs := h1
    have h2' : h.blk t' = some cs' := h2
    rw [r2 t (old t cs h1')] at p1
    rw [r2 t' (old t' cs' h2')] at p2
    exact H.inj t t' cs cs' k o1 o2 h1' h2' p1 p2
  · have hge : 2 * (h.next + 1) ≤ t := ht
    have e : t ≠ h.tok cb := by have := h.tok_ge cb; omega
    have := H.free t (by omega)
    exact ⟨this.1, by rw [r2 t e]; exact this.2⟩
  · by_cases e : t = h.tok cb
    · subst e
      rw [HP.addS_same] at h1; cases h1
      exact ⟨_, obj, r1, H.below.size, hnew, upS _ _ hs⟩
    · rw [HP.addS_other _ _ _ e] at h1
      obtain ⟨b2, obj2, g1, g2, g3, g4⟩ := H.slive t c' h1
      exact ⟨b2, obj2, hext _ _ g1, g2, by rw [hbw.block b2 (lt_of_heap g3)]; exact g3, upS _ _ g4⟩
  · have key : ∀ t1 t2 c3 c4, (h.addS cb c).sp t1 = some c3 → (h.addS cb c).sp t2 = some c4 → ρ' t1 = some (k, 0) → ρ' t2 = some (k, 0) → t1 = h.tok cb → t1 = t2 := by
      intro t1 t2 c3 c4 q1 q2 q3 q4 e
      apply Classical.byContradiction; intro hne
      subst e
      have e2 : t2 ≠ h.tok cb := fun e => hne e.symm
      rw [r1] at q3; cases q3
      rw [HP.addS_other _ _ _ e2] at q2
      rw [r2 t2 e2] at q4
      obtain ⟨b2, obj2, g1, g2, g3, g4⟩ := H.slive t2 c4 q2
      rw [q4] at g1; cases g1
      exact Nat.lt_irrefl _ (lt_of_heap g3)
    by_cases e : t = h.tok cb
    · exact key t t' c1 c2 h1 h2 p1 p2 e
    · by_cases e' : t' = h.tok cb
      · exact (key t' t c2 c1 h2 h1 p2 p1 e').symm
      · rw [HP.addS_other _ _ _ e] at h1
        rw [HP.addS_other _ _ _ e'] at h2
        rw [r2 t e] at p1
        rw [r2 t' e'] at p2
        exact H.sinj t t' c1 c2 k h1 h2 p1 p2
  · obtain ⟨q1, q2, q3⟩ := H.wfree t hw
    have hne : t ≠ h.tok cb := fun e => by have := (h.tok_ge cb).1; omega
    exact ⟨q1, by rw [r2 t hne]; exact q2, by show t < 2 * (h.next + 1); omega⟩
open Go.ChangeMaps (setBlock) in
theorem HRel.writeS (H : HRel w0 Z0 ρ h w) {tk b : Nat} {c c' : SpC} {obj' : Obj} (ht : h.sp tk = some c) (hr : ρ tk = some (b, 0)) (hs : Spec ρ (Zof Z0 ρ h) w c' obj') :
    HRel w0 Z0 ρ (h.setS tk c') (setBlock w b obj') ∧ ∀ pv u, V ρ (Zof Z0 ρ h) w pv u → V ρ (Zof Z0 ρ (h.setS tk c')) (setBlock w b obj') pv u := by
  obtain ⟨b0, obj, q1, q2, q3, q4⟩ := H.slive tk c ht
  rw [hr] at q1; cases q1
  have hlt := lt_of_heap q3
  have hsame : (setBlock w b obj').heap[b]? = some obj' := by simp [setBlock, hlt]
  have hoth : ∀ k, k ≠ b → (setBlock w b obj').heap[k]? = w.heap[k]? := fun k hk => by simp [setBlock, Array.getElem?_setIfInBounds_ne (Ne.symm hk)]
  have hsz : (setBlock w b obj').heap.size = w.heap.size := by simp [setBlock]
  have hZ : ∀ k, Zof Z0 ρ (h.setS tk c') k → Zof Z0 ρ h k := by
    rintro k (hk | hk | ⟨t, c2, h1, h2⟩)
    · exact .inl hk
    · exact .inr (.inl hk)
    · by_cases e : t = tk
      · subst e; exact .inr (.inr ⟨t, c, ht, h2⟩)
      · rw [HP.setS_other _ _ e] at h1; exact .inr (.inr ⟨t, c2, h1, h2⟩)
  have hzb : Zof Z0 ρ h b := .inr (.inr ⟨tk, c, ht, hr⟩)
  have he : Ext (Zof Z0 ρ h) w (setBlock w b obj') := by
    refine ⟨by omega, fun k hk hz => hoth k (fun e => hz (e ▸ hzb)), fun k a T' hk => ?_⟩
    have hne : k ≠ b := fun e => by subst e; exact H.apart ht hr hk
    exact ⟨a, by rw [hoth k hne]; exact hk, rfl⟩
  have up : ∀ pv u, V ρ (Zof Z0 ρ h) w pv u → V ρ (Zof Z0 ρ (h.setS tk c')) (setBlock w b obj') pv u := fun pv u hV => hV.ext he (fun k _ hk => hZ k hk) (fun _ _ h => h)
  have upS : ∀ c2 o2, Spec ρ (Zof Z0 ρ h) w c2 o2 → Spec ρ (Zof Z0 ρ (h.setS tk c')) (setBlock w b obj') c2 o2 := fun c2 o2 hh => hh.ext he (fun k _ hk => hZ k hk) (fun _ _ h => h)
  refine ⟨⟨H.below.trans ⟨rfl, rfl, rfl, by omega, fun k hk => hoth k (by omega)⟩, H.z0, fun t cs h1 => ?_, H.inj, H.free, fun t c2 h1 => ?_, fun t t' c1 c2 k h1 h2 p1 p2 => ?_, H.wfree⟩, up⟩
  · have h1' : h.blk t = some cs := h1
    rcases H.live t cs h1' with hn | ⟨b2, o2, a2, T2, g1, g2, g3, g4, g5⟩
    · exact .inl hn
    have hne : b2 ≠ b := fun e => by subst e; exact H.apart ht hr g3
    exact .inr ⟨b2, o2, a2, T2, g1, g2, by rw [hoth b2 hne]; exact g3, g4, fun i hi => up _ _ (g5 i hi)⟩
  · by_cases e : t = tk
    · subst e
      rw [HP.setS_same] at h1; cases h1
      exact ⟨b, obj', hr, q2, hsame, upS _ _ hs⟩
    · rw [HP.setS_other _ _ e] at h1
      obtain ⟨b2, obj2, g1, g2, g3, g4⟩ := H.slive t c2 h1
      have hne : b2 ≠ b := fun e2 => e (H.sinj t tk c2 c b h1 ht (e2 ▸ g1) hr)
      exact ⟨b2, obj2, g1, g2, by rw [hoth b2 hne]; exact g3, upS _ _ g4⟩
  · have f : ∀ t c, (h.setS tk c').sp t = some c → ∃ c', h.sp t = some c' := fun t c2 hc => by
      by_cases e : t = tk
      · exact ⟨c, e ▸ ht⟩
      · rw [HP.setS_other _ _ e] at hc; exact ⟨c2, hc⟩
    obtain ⟨d1, k1⟩ := f t c1 h1
    obtain ⟨d2, k2⟩ := f t' c2 h2
    exact H.sinj t t' d1 d2 k k1 k2 p1 p2
theorem HRel.killS (H : HRel w0 Z0 ρ h w) {tk b : Nat} {m : MF} (ht : h.sp tk = some (.map m)) (hr : ρ tk = some (b, 0)) :
    HRel w0 Z0 ρ (h.killS tk) w ∧ (∀ pv u, V ρ (Zof Z0 ρ h) w pv u → V ρ (Zof Z0 ρ (h.killS tk)) w pv u) ∧ V ρ (Zof Z0 ρ (h.killS tk)) w (.fmap m) (.map (some b)) := by
  obtain ⟨b0, obj, q1, q2, q3, es, clk, rfl, q4⟩ := H.slive tk _ ht
  rw [hr] at q1; cases q1
  have hZ : ∀ k, Zof Z0 ρ (h.killS tk) k → Zof Z0 ρ h k := by
    rintro k (hk | hk | ⟨t, c2, h1, h2⟩)
    · exact .inl hk
    · exact .inr (.inl hk)
    · exact .inr (.inr ⟨t, c2, (HP.killS_some h1).2, h2⟩)
  have hnz : ¬ Zof Z0 ρ (h.killS tk) b := by
    rintro (hk | ⟨t, cs, o, h1, h2⟩ | ⟨t, c2, h1, h2⟩)
    · have := H.z0 b hk; omega
    · exact H.apart' ht hr h1 h2
    · obtain ⟨n1, n2⟩ := HP.killS_some h1
      exact n1 (H.sinj t tk c2 _ b n2 ht h2 hr)
  have up : ∀ pv u, V ρ (Zof Z0 ρ h) w pv u → V ρ (Zof Z0 ρ (h.killS tk)) w pv u := fun pv u hV => hV.ext (Ext.refl _ _) (fun k _ hk => hZ k hk) (fun _ _ h => h)
  refine ⟨⟨H.below, H.z0, fun t cs h1 => ?_, H.inj, H.free, fun t c2 h1 => ?_, fun t t' c1 c2 k h1 h2 p1 p2 => H.sinj t t' c1 c2 k (HP.killS_some h1).2 (HP.killS_some h2).2 p1 p2, H.wfree⟩, up, .fmap _ _ hnz (lt_of_heap q3) ⟨es, clk, q3, q4⟩⟩
  · rcases H.live t cs h1 with hn | ⟨b2, o2, a2, T2, g1, g2, g3, g4, g5⟩
    · exact .inl hn
    exact .inr ⟨b2, o2, a2, T2, g1, g2, g3, g4, fun i hi => up _ _ (g5 i hi)⟩
  · obtain ⟨b2, obj2, g1, g2, g3, g4⟩ := H.slive t c2 (HP.killS_some h1).2
    exact ⟨b2, obj2, g1, g2, g3, g4.ext (Ext.refl _ _) (fun k _ hk => hZ k hk) (fun _ _ h => h)⟩
theorem HRel.allocW (H : HRel w0 Z0 ρ h w) {tk : Nat} (hw : h.win tk = true) (arr : Array Value) (T : TypeId) (cs : List PV) (hl : cs.length ≤ arr.size)
    (hv : ∀ i, i < cs.length → V ρ (Zof Z0 ρ h) w (cs.getD i .junk) (arr.getD i undef)) :
    ∃ ρ', ρ' tk = some (w.heap.size, 0) ∧ HRel w0 Z0 ρ' (h.put tk cs) (w.alloc (.cells arr T)) ∧
      ∀ pv u, V ρ (Zof Z0 ρ h) w pv u → V ρ' (Zof Z0 ρ' (h.put tk cs)) (w.alloc (.cells arr T)) pv u := by
  have hbw : Below w.heap.size w (w.alloc (.cells arr T)) := (Below.refl _ _).alloc (Nat.le_refl _) _
  have H' := H.step hbw
  have hnew : (w.alloc (.cells arr T)).heap[w.heap.size]? = some (.cells arr T (0, 0)) := by
    show (w.heap.push _)[w.heap.size]? = _
    simp
  have key : ∀ pv u, V ρ (Zof Z0 ρ h) w pv u → V ρ (fun k => Zof Z0 ρ h k ∨ k = w.heap.size) (w.alloc (.cells arr T)) pv u := fun pv u hV =>
    hV.ext (Ext.of_below hbw) (fun k hk hz => hz.resolve_right (by omega)) (fun _ _ h => h)
  obtain ⟨q1, q2, q3⟩ := H.wfree tk hw
  obtain ⟨ρ', r1, r2, r3⟩ := H'.nameG hnew H.below.size (fun hz => Nat.lt_irrefl _ (H.zlt _ hz)) (fun pv u => V ρ (Zof Z0 ρ h) w pv u) key
    (fun t c hc b o hr arr2 T2 hb2 i hi => by
      rcases H.live t c hc with ⟨_, g1⟩ | ⟨b2, o2, a2, T2', g1, g2, g3, g4, g5⟩
      · rw [hr] at g1; cases g1
      rw [hr] at g1; cases g1
      rw [hbw.block b (lt_of_heap g3), g3] at hb2; cases hb2
      exact g5 i hi) (fun t c hc b' hr obj hb2 => by
      obtain ⟨b2, obj2, g1, g2, g3, g4⟩ := H.slive t c hc
      rw [hr] at g1; cases g1
      rw [hbw.block b' (lt_of_heap g3), g3] at hb2; cases hb2
      exact g4.ext (Ext.of_below hbw) (fun k hk hz => hz.resolve_right (by omega)) (fun _ _ h => h)) (o := 0) (h.put tk cs) tk cs (HP.put_same _ _ _) (fun t e => HP.put_other _ _ e) rfl ⟨q1, q2⟩ (Nat.le_refl _) q3 (fun t hw => HP.put_win hw) (by omega) (fun i hi => by rw [Nat.zero_add]; exact hv i hi)
  exact ⟨ρ', r1, r2, r3⟩
theorem HRel.allocSW (H : HRel w0 Z0 ρ h w) {tk : Nat} (hw : h.win tk = true) (c : SpC) (obj : Obj) (hs : Spec ρ (Zof Z0 ρ h) w c obj) :
    ∃ ρ', ρ' tk = some (w.heap.size, 0) ∧ HRel w0 Z0 ρ' (h.putS tk c) (w.alloc obj) ∧ ∀ pv u, V ρ (Zof Z0 ρ h) w pv u → V ρ' (Zof Z0 ρ' (h.putS tk c)) (w.alloc obj) pv u := by
  have hbw : Below w.heap.size w (w.alloc obj) := (Below.refl _ _).alloc (Nat.le_refl _) _
  have H' := H.step hbw
  have hnew : (w.alloc obj).heap[w.heap.size]? = some obj := by
    show (w.heap.push _)[w.heap.size]? = _
    simp
  have hfree := (H.wfree tk hw)
  let ρ' : Pl := fun t => bif Nat.beq t tk then some (w.heap.size, 0) else ρ t
  have r1 : ρ' tk = some (w.heap.size, 0) := by simp [ρ']
  have r2 : ∀ t, t ≠ tk → ρ' t = ρ t := fun t e => by simp [ρ', beq_of_ne e]
  have hext : ∀ t p, ρ t = some p → ρ' t = some p := fun t p hp => by
    rw [r2 t (fun e => by rw [e, hfree.2.1] at hp; cases hp)]; exact hp
  have old : ∀ t c, h.blk t = some c → t ≠ tk := fun t c hc e => by rw [e, hfree.1] at hc; cases hc
  have sold : ∀ t c, h.sp t = some c → t ≠ tk := fun t c hc e => by
    obtain ⟨b2, obj, g1, _⟩ := H.slive t c hc
    rw [e, hfree.2.1] at g1; cases g1
  have hZ : ∀ k, Zof Z0 ρ' (h.putS tk c) k → Zof Z0 ρ h k ∨ k = w.heap.size := by
    rintro k (hk | ⟨t, c', o', h1, h2⟩ | ⟨t, c', h1, h2⟩)
    · exact .inl (.inl hk)
    · have h1' : h.blk t = some c' := h1
      rw [r2 t (old t c' h1')] at h2
      exact .inl (.inr (.inl ⟨t, c', o', h1', h2⟩))
    · by_cases e : t = tk
      · subst e; rw [r1] at h2; cases h2; exact .inr rfl
      · rw [HP.putS_other _ _ e] at h1
        rw [r2 t e] at h2
        exact .inl (.inr (.inr ⟨t, c', h1, h2⟩))
  have up : ∀ pv u, V ρ (Zof Z0 ρ h) w pv u → V ρ' (Zof Z0 ρ' (h.putS tk c)) (w.alloc obj) pv u := fun pv u hV => hV.ext (Ext.of_below hbw) (fun k hk hz => (hZ k hz).resolve_right (by omega)) hext
  have upS : ∀ c' o', Spec ρ (Zof Z0 ρ h) w c' o' → Spec ρ' (Zof Z0 ρ' (h.putS tk c)) (w.alloc obj) c' o' := fun c' o' hh => hh.ext (Ext.of_below hbw) (fun k hk hz' => (hZ k hz').resolve_right (by omega)) hext
  refine ⟨ρ', r1, ⟨H'.below, H.z0, fun t cs h1 => ?_, fun t t' cs cs' k o1 o2 h1 h2 p1 p2 => ?_, fun t ht => ?_, fun t c' h1 => ?_, fun t t' c1 c2 k h1 h2 p1 p2 => ?_, fun t hw => ?_⟩, up⟩
  · have h1' : h.blk t = some cs := h1
    rcases H.live t cs h1' with ⟨hn, hn2⟩ | ⟨b2, o2, a2, T2, g1, g2, g3, g4, g5⟩
    · exact .inl ⟨hn, by rw [r2 t (old t cs h1')]; exact hn2⟩
    · exact .inr ⟨b2, o2, a2, T2, hext _ _ g1, g2, by rw [hbw.block b2 (lt_of_heap g3)]; exact g3, g4, fun i hi => up _ _ (g5 i hi)⟩
  · have h1' : h.blk t = some cs := h1
    have h2' : h.blk t' = some cs' := h2
    rw [r2 t (old t cs h1')] at p1
    rw [r2 t' (old t' cs' h2')] at p2
    exact H.inj t t' cs cs' k o1 o2 h1' h2' p1 p2
  · have hge : 2 * h.next ≤ t := ht
    have e : t ≠ tk := by have := hfree.2.2; omega
    have := H.free t (by omega)
    exact ⟨this.1, by rw [r2 t e]; exact this.2⟩
  · by_cases e : t = tk
    · rw [e] at h1 ⊢
      rw [HP.putS_same] at h1; cases h1
      exact ⟨_, obj, r1, H.below.size, hnew, upS _ _ hs⟩
    · rw [HP.putS_other _ _ e] at h1
      obtain ⟨b2, obj2, g1, g2, g3, g4⟩ := H.slive t c' h1
      exact ⟨b2, obj2, hext _ _ g1, g2, by rw [hbw.block b2 (lt_of_heap g3)]; exact g3, upS _ _ g4⟩
  · have key : ∀ t1 t2 c3 c4, (h.putS tk c).sp t1 = some c3 → (h.putS tk c).sp t2 = some c4 → ρ' t1 = some (k, 0) → ρ' t2 = some (k, 0) → t1 = tk → t1 = t2 := by
      intro t1 t2 c3 c4 q1 q2 q3 q4 e
      apply Classical.byContradiction; intro hne
      have e2 : t2 ≠ tk := fun e' => hne (e.trans e'.symm)
      rw [e, r1] at q3; cases q3
      rw [HP.putS_other _ _ e2] at q2
      rw [r2 t2 e2] at q4
      obtain ⟨b2, obj2, g1, g2, g3, g4⟩ := H.slive t2 c4 q2
      rw [q4] at g1; cases g1
      exact Nat.lt_irrefl _ (lt_of_heap g3)
    by_cases e : t = tk
    · exact key t t' c1 c2 h1 h2 p1 p2 e
    · by_cases e' : t' = tk
      · exact (key t' t c2 c1 h2 h1 p2 p1 e').symm
      · rw [HP.putS_other _ _ e] at h1
        rw [HP.putS_other _ _ e'] at h2
        rw [r2 t e] at p1
        rw [r2 t' e'] at p2
        exact H.sinj t t' c1 c2 k h1 h2 p1 p2
  · obtain ⟨hne, hw2⟩ := HP.putS_win hw
    obtain ⟨q1, q2, q3⟩ := H.wfree t hw2
    exact ⟨q1, by rw [r2 t hne]; exact q2, q3⟩
theorem HRel.bump (H : HRel w0 Z0 ρ h w) (k : Nat) : HRel w0 Z0 ρ (h.bump k) w := by
  refine ⟨H.below, H.z0, H.live, H.inj, fun t ht => H.free t (by have : 2 * (h.next + k) ≤ t := ht; omega), H.slive, H.sinj, fun t hw => ?_⟩
  have hw' : (h.win t || (Nat.ble (2 * h.next) t && Nat.blt t (2 * (h.next + k)))) = true := hw
  rw [Bool.or_eq_true, Bool.and_eq_true] at hw'
  rcases hw' with h1 | ⟨h1, h2⟩
  · obtain ⟨q1, q2, q3⟩ := H.wfree t h1
    exact ⟨q1, q2, by show t < 2 * (h.next + k); omega⟩
  · have h3 := Nat.le_of_ble_eq_true h1
    have h4 : t < 2 * (h.next + k) := by simpa [Nat.blt_eq] using h2
    have := H.free t h3
    exact ⟨this.1, this.2, h4⟩
theorem HP.add_even {h : HP} {cs : List PV} {t : Nat} (ht : t % 2 = 1) : (h.add false cs).blk t = h.blk t := HP.add_other _ _ _ (fun e => by simp [HP.tok] at e; omega)
theorem HP.set_even {h : HP} {cs : List PV} {t tk : Nat} (ht : t % 2 = 1) (hk : tk % 2 = 0) : (h.set tk cs).blk t = h.blk t := HP.set_other _ _ (fun e => by omega)
theorem HP.set_odd {h : HP} {cs : List PV} {t tk : Nat} (ht : t % 2 = 0) (hk : tk % 2 = 1) : (h.set tk cs).blk t = h.blk t := HP.set_other _ _ (fun e => by omega)
theorem HP.kill_even {h : HP} {t tk : Nat} (ht : t % 2 = 1) (hk : tk % 2 = 0) : (h.kill tk).blk t = h.blk t := HP.kill_other _ (fun e => by omega)
end Go.Proofs.YtkmkcbkfakoomaaDoor
