/- The abstract heap: a token is written, made, given up. Nothing of the program is here. -/
import Derived.Test.YtpnamejmkfpeoaaAbs1
set_option linter.unusedVariables false
namespace Go.Proofs.Ytpnamejmkfpeoaa
open Go.RowKit

def HP.set (h : HP) (t : Nat) (cs : List PV) : HP := ⟨fun x => bif Nat.beq x t then some cs else h.blk x, h.next⟩
def HP.kill (h : HP) (t : Nat) : HP := ⟨fun x => bif Nat.beq x t then none else h.blk x, h.next⟩
/-- the next token: even for slices, odd for variables -/
def HP.tok (h : HP) (b : Bool) : Nat := 2 * h.next + (if b then 1 else 0)
def HP.add (h : HP) (b : Bool) (cs : List PV) : HP := ⟨fun x => bif Nat.beq x (h.tok b) then some cs else h.blk x, h.next + 1⟩

theorem beq_of_ne {a b : Nat} (h : a ≠ b) : Nat.beq a b = false := by
  cases hb : Nat.beq a b with
  | false => rfl
  | true => exact absurd (Nat.eq_of_beq_eq_true hb) h
theorem HP.set_same (h : HP) (t : Nat) (cs : List PV) : (h.set t cs).blk t = some cs := by simp [HP.set]
theorem HP.set_other (h : HP) {t x : Nat} (cs : List PV) (e : x ≠ t) : (h.set t cs).blk x = h.blk x := by simp [HP.set, beq_of_ne e]
theorem HP.kill_same (h : HP) (t : Nat) : (h.kill t).blk t = none := by simp [HP.kill]
theorem HP.kill_other (h : HP) {t x : Nat} (e : x ≠ t) : (h.kill t).blk x = h.blk x := by simp [HP.kill, beq_of_ne e]
theorem HP.add_same (h : HP) (b : Bool) (cs : List PV) : (h.add b cs).blk (h.tok b) = some cs := by simp [HP.add]
theorem HP.tok_ge (h : HP) (b : Bool) : 2 * h.next ≤ h.tok b ∧ h.tok b < 2 * h.next + 2 := by unfold HP.tok; split <;> omega
theorem HP.add_other (h : HP) {x : Nat} (b : Bool) (cs : List PV) (e : x ≠ h.tok b) : (h.add b cs).blk x = h.blk x := by simp [HP.add, beq_of_ne e]
theorem HP.kill_some {h : HP} {t x : Nat} {cs : List PV} (e : (h.kill t).blk x = some cs) : x ≠ t ∧ h.blk x = some cs := by
  by_cases he : x = t
  · subst he; rw [HP.kill_same] at e; cases e
  · rw [HP.kill_other _ he] at e; exact ⟨he, e⟩

variable {w0 : World} {Z0 : Nat → Prop} {ρ : Pl} {h : HP} {w : World}

theorem HRel.write (H : HRel w0 Z0 ρ h w) {tk : Nat} {cs : List PV} {b o : Nat} {arr : Array Value} {T : TypeId} (ht : h.blk tk = some cs) (hr : ρ tk = some (b, o))
    (hb : w.heap[b]? = some (.cells arr T (0, 0))) (arr' : Array Value) (hsz : arr'.size = arr.size) (cs' : List PV) (hl : o + cs'.length ≤ arr.size)
    (hv : ∀ i, i < cs'.length → V ρ (Zof Z0 ρ h) w (cs'.getD i .junk) (arr'.getD (o + i) undef)) :
    HRel w0 Z0 ρ (h.set tk cs') (w.setRow b arr') ∧ ∀ pv u, V ρ (Zof Z0 ρ h) w pv u → V ρ (Zof Z0 ρ (h.set tk cs')) (w.setRow b arr') pv u := by
  have hZ : ∀ k, Zof Z0 ρ (h.set tk cs') k → Zof Z0 ρ h k := by
    rintro k (hk | ⟨t, c, o', h1, h2⟩)
    · exact .inl hk
    · by_cases e : t = tk
      · subst e; exact .inr ⟨t, cs, o', ht, h2⟩
      · rw [HP.set_other _ _ e] at h1; exact .inr ⟨t, c, o', h1, h2⟩
  have he : Ext (Zof Z0 ρ h) w (w.setRow b arr') := by
    refine ⟨by simp, fun k hk hz => ?_, fun k a T' hk => ?_⟩
    · exact setRow_other _ _ _ _ (fun e => hz (.inr ⟨tk, cs, o, ht, e ▸ hr⟩))
    · by_cases e : k = b
      · subst e
        rw [hb] at hk; cases hk
        exact ⟨arr', setRow_heap _ _ _ _ _ _ hb, hsz⟩
      · exact ⟨a, by rw [setRow_other _ _ _ _ e]; exact hk, rfl⟩
  have up : ∀ pv u, V ρ (Zof Z0 ρ h) w pv u → V ρ (Zof Z0 ρ (h.set tk cs')) (w.setRow b arr') pv u := fun pv u hV => hV.ext he (fun k _ hk => hZ k hk) (fun _ _ h => h)
  rcases H.live tk cs ht with ⟨_, e1⟩ | ⟨b1, o1, a1, T1, e1, e2, e3, e4, e5⟩
  · rw [hr] at e1; cases e1
  rw [hr] at e1; cases e1
  refine ⟨⟨H.below.trans ⟨rfl, rfl, rfl, by simp, fun k hk => setRow_other _ _ _ _ (by omega)⟩, H.z0, fun t c h1 => ?_, fun t t' c c' k o1 o2 h1 h2 r1 r2 => ?_, fun t ht' => ?_⟩, up⟩
  · by_cases e : t = tk
    · subst e
      rw [HP.set_same] at h1; cases h1
      exact .inr ⟨b, o, arr', T, hr, e2, setRow_heap _ _ _ _ _ _ hb, by omega, fun i hi => up _ _ (hv i hi)⟩
    · rw [HP.set_other _ _ e] at h1
      rcases H.live t c h1 with hn | ⟨b2, o2, a2, T2, g1, g2, g3, g4, g5⟩
      · exact .inl hn
      have hne : b2 ≠ b := fun hbb => e (H.inj t tk c cs b2 o2 o h1 ht g1 (hbb ▸ hr))
      exact .inr ⟨b2, o2, a2, T2, g1, g2, by rw [setRow_other _ _ _ _ hne]; exact g3, g4, fun i hi => up _ _ (g5 i hi)⟩
  · have f : ∀ t c, (h.set tk cs').blk t = some c → ∃ c', h.blk t = some c' := fun t c hc => by
      by_cases e : t = tk
      · exact ⟨cs, e ▸ ht⟩
      · rw [HP.set_other _ _ e] at hc; exact ⟨c, hc⟩
    obtain ⟨d1, k1⟩ := f t c h1
    obtain ⟨d2, k2⟩ := f t' c' h2
    exact H.inj t t' d1 d2 k o1 o2 k1 k2 r1 r2
  · have := H.free t ht'
    have e : t ≠ tk := fun e => by rw [e, ht] at this; cases this.1
    exact ⟨by rw [HP.set_other _ _ e]; exact this.1, this.2⟩

theorem HRel.kill (H : HRel w0 Z0 ρ h w) (tk : Nat) : HRel w0 Z0 ρ (h.kill tk) w ∧ ∀ pv u, V ρ (Zof Z0 ρ h) w pv u → V ρ (Zof Z0 ρ (h.kill tk)) w pv u := by
  have up : ∀ pv u, V ρ (Zof Z0 ρ h) w pv u → V ρ (Zof Z0 ρ (h.kill tk)) w pv u := fun pv u hV => hV.ext (Ext.refl _ _) (fun k _ hk => by
    rcases hk with hk | ⟨t, c, o, h1, h2⟩
    · exact .inl hk
    · exact .inr ⟨t, c, o, (HP.kill_some h1).2, h2⟩) (fun _ _ h => h)
  refine ⟨⟨H.below, H.z0, fun t c h1 => ?_, fun t t' c c' k o1 o2 h1 h2 r1 r2 => H.inj t t' c c' k o1 o2 (HP.kill_some h1).2 (HP.kill_some h2).2 r1 r2, fun t ht => ?_⟩, up⟩
  · rcases H.live t c (HP.kill_some h1).2 with hn | ⟨b2, o2, a2, T2, g1, g2, g3, g4, g5⟩
    · exact .inl hn
    exact .inr ⟨b2, o2, a2, T2, g1, g2, g3, g4, fun i hi => up _ _ (g5 i hi)⟩
  · have := H.free t ht
    refine ⟨?_, this.2⟩
    by_cases e : t = tk
    · rw [e, HP.kill_same]
    · rw [HP.kill_other _ e]; exact this.1

/-- A block that no token names (any more) gets a token: a new block, or the block of a token that was given up. -/
theorem HRel.name (H : HRel w0 Z0 ρ h w) {b o : Nat} {arr : Array Value} {T : TypeId} (hb : w.heap[b]? = some (.cells arr T (0, 0))) (hlow : w0.heap.size ≤ b)
    (hz : ¬ Zof Z0 ρ h b) (P' : PV → Value → Prop) (hP : ∀ pv u, P' pv u → V ρ (fun k => Zof Z0 ρ h k ∨ k = b) w pv u)
    (hall : ∀ t c, h.blk t = some c → ∀ b o, ρ t = some (b, o) → ∀ arr T, w.heap[b]? = some (.cells arr T (0, 0)) → ∀ i, i < c.length → P' (c.getD i .junk) (arr.getD (o + i) undef))
    (cb : Bool) (cs : List PV) (hl : o + cs.length ≤ arr.size) (hv : ∀ i, i < cs.length → P' (cs.getD i .junk) (arr.getD (o + i) undef)) :
    ∃ ρ', ρ' (h.tok cb) = some (b, o) ∧ HRel w0 Z0 ρ' (h.add cb cs) w ∧ (∀ pv u, P' pv u → V ρ' (Zof Z0 ρ' (h.add cb cs)) w pv u) := by
  have hfree := H.free (h.tok cb) (h.tok_ge cb).1
  let ρ' : Pl := fun t => bif Nat.beq t (h.tok cb) then some (b, o) else ρ t
  have r1 : ρ' (h.tok cb) = some (b, o) := by simp [ρ']
  have r2 : ∀ t, t ≠ h.tok cb → ρ' t = ρ t := fun t e => by simp [ρ', beq_of_ne e]
  have hext : ∀ t p, ρ t = some p → ρ' t = some p := fun t p hp => by
    rw [r2 t (fun e => by rw [e, hfree.2] at hp; cases hp)]; exact hp
  have old : ∀ t c, h.blk t = some c → t ≠ h.tok cb := fun t c hc e => by rw [e, hfree.1] at hc; cases hc
  have hZ : ∀ k, Zof Z0 ρ' (h.add cb cs) k → Zof Z0 ρ h k ∨ k = b := by
    rintro k (hk | ⟨t, c, o', h1, h2⟩)
    · exact .inl (.inl hk)
    · by_cases e : t = h.tok cb
      · subst e; rw [r1] at h2; cases h2; exact .inr rfl
      · rw [HP.add_other _ _ _ e] at h1
        rw [r2 t e] at h2
        exact .inl (.inr ⟨t, c, o', h1, h2⟩)
  have up : ∀ pv u, P' pv u → V ρ' (Zof Z0 ρ' (h.add cb cs)) w pv u := fun pv u hV => (hP _ _ hV).ext (Ext.refl _ _) (fun k _ hk => hZ k hk) hext
  refine ⟨ρ', r1, ⟨H.below, H.z0, fun t c h1 => ?_, fun t t' c c' k o1 o2 h1 h2 p1 p2 => ?_, fun t ht => ?_⟩, up⟩
  · by_cases e : t = h.tok cb
    · subst e
      rw [HP.add_same] at h1; cases h1
      exact .inr ⟨b, o, arr, T, r1, hlow, hb, hl, fun i hi => up _ _ (hv i hi)⟩
    · rw [HP.add_other _ _ _ e] at h1
      rcases H.live t c h1 with ⟨hn, hn2⟩ | ⟨b2, o2, a2, T2, g1, g2, g3, g4, g5⟩
      · exact .inl ⟨hn, by rw [r2 t e]; exact hn2⟩
      exact .inr ⟨b2, o2, a2, T2, hext _ _ g1, g2, g3, g4, fun i hi => up _ _ (hall t c h1 _ _ g1 _ _ g3 i hi)⟩
  · by_cases e : t = h.tok cb
    · by_cases e' : t' = h.tok cb
      · rw [e, e']
      · exfalso
        subst e
        rw [HP.add_other _ _ _ e'] at h2
        rw [r1] at p1; cases p1
        rw [r2 t' e'] at p2
        exact hz (.inr ⟨t', c', o2, h2, p2⟩)
    · rw [HP.add_other _ _ _ e] at h1
      rw [r2 t e] at p1
      by_cases e' : t' = h.tok cb
      · exfalso
        subst e'
        rw [r1] at p2; cases p2
        exact hz (.inr ⟨t, c, o1, h1, p1⟩)
      · rw [HP.add_other _ _ _ e'] at h2
        rw [r2 t' e'] at p2
        exact H.inj t t' c c' k o1 o2 h1 h2 p1 p2
  · have hge : 2 * (h.next + 1) ≤ t := ht
    have e : t ≠ h.tok cb := by have := h.tok_ge cb; omega
    have := H.free t (by omega)
    exact ⟨by rw [HP.add_other _ _ _ e]; exact this.1, by rw [r2 t e]; exact this.2⟩

/-- A new block gets a token. -/
theorem HRel.alloc (H : HRel w0 Z0 ρ h w) (cb : Bool) (arr : Array Value) (T : TypeId) (cs : List PV) (hl : cs.length ≤ arr.size)
    (hv : ∀ i, i < cs.length → V ρ (Zof Z0 ρ h) w (cs.getD i .junk) (arr.getD i undef)) :
    ∃ ρ', ρ' (h.tok cb) = some (w.heap.size, 0) ∧ HRel w0 Z0 ρ' (h.add cb cs) (w.alloc (.cells arr T)) ∧
      ∀ pv u, V ρ (Zof Z0 ρ h) w pv u → V ρ' (Zof Z0 ρ' (h.add cb cs)) (w.alloc (.cells arr T)) pv u := by
  have hbw : Below w.heap.size w (w.alloc (.cells arr T)) := (Below.refl _ _).alloc (Nat.le_refl _) _
  have H' := H.step hbw
  have hnew : (w.alloc (.cells arr T)).heap[w.heap.size]? = some (.cells arr T (0, 0)) := by
    show (w.heap.push _)[w.heap.size]? = _
    simp
  have key : ∀ pv u, V ρ (Zof Z0 ρ h) w pv u → V ρ (fun k => Zof Z0 ρ h k ∨ k = w.heap.size) (w.alloc (.cells arr T)) pv u := fun pv u hV =>
    hV.ext (Ext.of_below hbw) (fun k hk hz => hz.resolve_right (by omega)) (fun _ _ h => h)
  obtain ⟨ρ', r1, r2, r3⟩ := H'.name hnew H.below.size (fun hz => Nat.lt_irrefl _ (H.zlt _ hz)) (fun pv u => V ρ (Zof Z0 ρ h) w pv u) key
    (fun t c hc b o hr arr2 T2 hb2 i hi => by
      rcases H.live t c hc with ⟨_, g1⟩ | ⟨b2, o2, a2, T2', g1, g2, g3, g4, g5⟩
      · rw [hr] at g1; cases g1
      rw [hr] at g1; cases g1
      rw [hbw.block b (lt_of_heap g3), g3] at hb2; cases hb2
      exact g5 i hi) (o := 0) cb cs (by omega) (fun i hi => by rw [Nat.zero_add]; exact hv i hi)
  exact ⟨ρ', r1, r2, r3⟩

/-- A live token is given up and its block gets a new one. -/
theorem HRel.rename (cb : Bool) (H : HRel w0 Z0 ρ h w) {tk : Nat} {cs : List PV} {b o : Nat} (ht : h.blk tk = some cs) (hr : ρ tk = some (b, o)) (off : Nat) (ho : off ≤ cs.length) :
    ∃ ρ', ρ' ((h.kill tk).tok cb) = some (b, o + off) ∧ HRel w0 Z0 ρ' ((h.kill tk).add cb (cs.drop off)) w ∧ ∀ pv u, V ρ (Zof Z0 ρ h) w pv u → V ρ' (Zof Z0 ρ' ((h.kill tk).add cb (cs.drop off))) w pv u := by
  rcases H.live tk cs ht with ⟨_, e1⟩ | ⟨b1, o1, arr, T, e1, e2, e3, e4, e5⟩
  · rw [hr] at e1; cases e1
  rw [hr] at e1; cases e1
  obtain ⟨H1, u1⟩ := H.kill tk
  have hz : ¬ Zof Z0 ρ (h.kill tk) b := by
    rintro (hk | ⟨t, c, o', h1, h2⟩)
    · have := H.z0 b hk; omega
    · obtain ⟨n1, n2⟩ := HP.kill_some h1
      exact n1 (H.inj t tk c cs b o' o n2 ht h2 hr)
  obtain ⟨ρ', r1, r2, r3⟩ := H1.name e3 e2 hz (fun pv u => V ρ (Zof Z0 ρ h) w pv u)
    (fun pv u hV => hV.ext (Ext.refl _ _) (fun k hk hz => by
      rcases hz with hz | rfl
      · rcases hz with hz | ⟨t, c, o', h1, h2⟩
        · exact .inl hz
        · exact .inr ⟨t, c, o', (HP.kill_some h1).2, h2⟩
      · exact .inr ⟨tk, cs, o, ht, hr⟩) (fun _ _ h => h))
    (fun t c hc b' o' hr' arr2 T2 hb2 i hi => by
      rcases H.live t c (HP.kill_some hc).2 with ⟨_, g1⟩ | ⟨b2, o2, a2, T2', g1, g2, g3, g4, g5⟩
      · rw [hr'] at g1; cases g1
      rw [hr'] at g1; cases g1
      rw [g3] at hb2; cases hb2
      exact g5 i hi) (o := o + off) cb (cs.drop off) (by simp; omega) (fun i hi => by
      have hi' : off + i < cs.length := by simp at hi; omega
      have := e5 (off + i) hi'
      rw [Nat.add_assoc]
      have e : (cs.drop off).getD i .junk = cs.getD (off + i) .junk := by simp [List.getD, List.getElem?_drop]
      rw [e]; exact this)
  exact ⟨ρ', r1, r2, r3⟩
/-- An empty token, without a block. -/
theorem HRel.empty (H : HRel w0 Z0 ρ h w) (cb : Bool) : HRel w0 Z0 ρ (h.add cb []) w ∧ ∀ pv u, V ρ (Zof Z0 ρ h) w pv u → V ρ (Zof Z0 ρ (h.add cb [])) w pv u := by
  have hfree := H.free (h.tok cb) (h.tok_ge cb).1
  have up : ∀ pv u, V ρ (Zof Z0 ρ h) w pv u → V ρ (Zof Z0 ρ (h.add cb [])) w pv u := fun pv u hV => hV.ext (Ext.refl _ _) (fun k _ hk => by
    rcases hk with hk | ⟨t, c, o, h1, h2⟩
    · exact .inl hk
    · by_cases e : t = h.tok cb
      · subst e; rw [hfree.2] at h2; cases h2
      · rw [HP.add_other _ _ _ e] at h1; exact .inr ⟨t, c, o, h1, h2⟩) (fun _ _ h => h)
  refine ⟨⟨H.below, H.z0, fun t c h1 => ?_, fun t t' c c' k o1 o2 h1 h2 p1 p2 => ?_, fun t ht => ?_⟩, up⟩
  · by_cases e : t = h.tok cb
    · subst e
      rw [HP.add_same] at h1; cases h1
      exact .inl ⟨rfl, hfree.2⟩
    · rw [HP.add_other _ _ _ e] at h1
      rcases H.live t c h1 with hn | ⟨b2, o2, a2, T2, g1, g2, g3, g4, g5⟩
      · exact .inl hn
      exact .inr ⟨b2, o2, a2, T2, g1, g2, g3, g4, fun i hi => up _ _ (g5 i hi)⟩
  · have e : t ≠ h.tok cb := fun e => by rw [e, hfree.2] at p1; cases p1
    have e' : t' ≠ h.tok cb := fun e => by rw [e, hfree.2] at p2; cases p2
    rw [HP.add_other _ _ _ e] at h1
    rw [HP.add_other _ _ _ e'] at h2
    exact H.inj t t' c c' k o1 o2 h1 h2 p1 p2
  · have hge : 2 * (h.next + 1) ≤ t := ht
    have e : t ≠ h.tok cb := by have := h.tok_ge cb; omega
    have := H.free t (by omega)
    exact ⟨by rw [HP.add_other _ _ _ e]; exact this.1, this.2⟩
theorem HP.add_even {h : HP} {cs : List PV} {t : Nat} (ht : t % 2 = 1) : (h.add false cs).blk t = h.blk t := HP.add_other _ _ _ (fun e => by simp [HP.tok] at e; omega)
theorem HP.set_even {h : HP} {cs : List PV} {t tk : Nat} (ht : t % 2 = 1) (hk : tk % 2 = 0) : (h.set tk cs).blk t = h.blk t := HP.set_other _ _ (fun e => by omega)
theorem HP.kill_even {h : HP} {t tk : Nat} (ht : t % 2 = 1) (hk : tk % 2 = 0) : (h.kill tk).blk t = h.blk t := HP.kill_other _ (fun e => by omega)
end Go.Proofs.Ytpnamejmkfpeoaa
