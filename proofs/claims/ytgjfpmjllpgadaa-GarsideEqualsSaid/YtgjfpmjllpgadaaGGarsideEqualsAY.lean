/- A slice of one's own, cut: what lies behind it is forgotten. Nothing of the program is here. -/
import Derived.Test.YtgjfpmjllpgadaaGGarsideEqualsAS
set_option linter.unusedVariables false
set_option linter.unusedSimpArgs false
namespace Go.Proofs.Ytgjfpmjllpgadaa
open Go.RowKit
variable {P : Program} {T : TypeId → TI} {M : Hn} {t : Nat → PV} {h : HP} {n : Nat} {Q : Exit → AS → Prop}

theorem HRel.nrm {w0 : World} {Z0 : Nat → Prop} {ρ : Pl} {w : World} (H : HRel w0 Z0 ρ h w) {tk : Nat} {cs : List PV} (ht : h.blk tk = some cs) :
    HRel w0 Z0 ρ (h.set tk (cs.map PV.nrm0)) w ∧ ∀ pv u, V ρ (Zof Z0 ρ h) w pv u → V ρ (Zof Z0 ρ (h.set tk (cs.map PV.nrm0))) w pv u := by
  have hZ : ∀ k, Zof Z0 ρ (h.set tk (cs.map PV.nrm0)) k → Zof Z0 ρ h k := by
    rintro k (hk | ⟨x, c, o', h1, h2⟩ | hk)
    · exact .inl hk
    · by_cases e : x = tk
      · subst e; exact .inr (.inl ⟨x, cs, o', ht, h2⟩)
      · rw [HP.set_other _ _ e] at h1; exact .inr (.inl ⟨x, c, o', h1, h2⟩)
    · exact .inr (.inr hk)
  have up : ∀ pv u, V ρ (Zof Z0 ρ h) w pv u → V ρ (Zof Z0 ρ (h.set tk (cs.map PV.nrm0))) w pv u := fun pv u hV => hV.ext (Ext.refl _ _) (fun k _ hk => hZ k hk) (fun _ _ h => h)
  have back : ∀ x c, (h.set tk (cs.map PV.nrm0)).blk x = some c → ∃ c', h.blk x = some c' := fun x c hc => by
    by_cases e : x = tk
    · subst e; exact ⟨cs, ht⟩
    · rw [HP.set_other _ _ e] at hc; exact ⟨c, hc⟩
  refine ⟨⟨H.below, H.z0, fun x c h1 => ?_, fun x x' c c' k o1 o2 h1 h2 r1 r2 => ?_, fun x hx => ?_, fun x c h1 => ?_, H.sinj, fun x hw => ?_⟩, up⟩
  · by_cases e : x = tk
    · subst e
      rw [HP.set_same] at h1; cases h1
      rcases H.live x cs ht with ⟨hn, hn2⟩ | ⟨b2, o2, a2, T2, g1, g2, g3, g4, g5⟩
      · exact .inl ⟨by rw [hn]; simp, hn2⟩
      · refine .inr ⟨b2, o2, a2, T2, g1, g2, g3, by simpa using g4, fun i hi => up _ _ ?_⟩
        have hi' : i < cs.length := by simpa using hi
        have := (g5 i hi').nrm0
        simp only [List.getD, hi', List.getElem?_eq_getElem, Option.getD_some] at this
        simp only [List.getD, List.getElem?_map, hi', List.getElem?_eq_getElem, Option.getD_some, Option.map_some]
        exact this
    · rw [HP.set_other _ _ e] at h1
      rcases H.live x c h1 with hn | ⟨b2, o2, a2, T2, g1, g2, g3, g4, g5⟩
      · exact .inl hn
      · exact .inr ⟨b2, o2, a2, T2, g1, g2, g3, g4, fun i hi => up _ _ (g5 i hi)⟩
  · obtain ⟨d1, k1⟩ := back x c h1
    obtain ⟨d2, k2⟩ := back x' c' h2
    exact H.inj x x' d1 d2 k o1 o2 k1 k2 r1 r2
  · have := H.free x hx
    have e : x ≠ tk := fun e => by rw [e, ht] at this; cases this.1
    exact ⟨by rw [HP.set_other _ _ e]; exact this.1, this.2⟩
  · obtain ⟨b, obj, g1, g2, g3, g4⟩ := H.slive x c h1
    exact ⟨b, obj, g1, g2, g3, g4.ext (fun _ _ _ => rfl) (Nat.le_refl _) (fun k _ _ _ _ hz hz' => hz (hZ k hz'))⟩
  · obtain ⟨q1, q2, q3⟩ := H.wfree x hw
    exact ⟨by rw [HP.set_other _ _ (fun e => by rw [e, ht] at q1; cases q1)]; exact q1, q2, q3⟩
/-- what holds at a point in between -/
theorem CW.midS {ι : Type} {c : Code} {s : AS} {next : AS → Prop} (C : ι → Prop) (sl : ι → List (Nat × PV)) (hp : ι → HP → Prop) (h1 : CW P T M n c s (TQ (fun s' => ∃ i, C i ∧ allS (sl i) s'.tmps ∧ hp i s'.hp) Q)) (h2 : ∀ i t h, C i → hp i h → next ⟨updS (sl i) t, h⟩) : CW P T M n c s (TQ next Q) := by
  refine ⟨fun q1 q2 q3 => .mono (h1.out q1 q2 q3) (fun e s' hh => ⟨?_⟩)⟩
  have := hh.out
  cases e with
  | normal =>
    obtain ⟨i, k1, k2, k3⟩ := this
    have := h2 i s'.tmps s'.hp k1 k3
    rw [updS_eta _ _ k2] at this
    exact this
  | _ => exact this
theorem CW.midB {ι : Type} {c : Code} {s : AS} {id : Nat} {next : AS → Prop} (C : ι → Prop) (sl : ι → List (Nat × PV)) (hp : ι → HP → Prop) (h1 : CW P T M n c s (BQ id (TQ (fun s' => ∃ i, C i ∧ allS (sl i) s'.tmps ∧ hp i s'.hp) Q))) (h2 : ∀ i t h, C i → hp i h → next ⟨updS (sl i) t, h⟩) : CW P T M n c s (BQ id (TQ next Q)) := by
  have key : ∀ s', (∃ i, C i ∧ allS (sl i) s'.tmps ∧ hp i s'.hp) → next s' := fun s' ⟨i, k1, k2, k3⟩ => by
    have := h2 i s'.tmps s'.hp k1 k3
    rw [updS_eta _ _ k2] at this
    exact this
  have key2 : ∀ e s', TQ (fun s' => ∃ i, C i ∧ allS (sl i) s'.tmps ∧ hp i s'.hp) Q e s' → TQ next Q e s' := fun e s' hh => ⟨by
    have := hh.out
    cases e with
    | normal => exact key s' this
    | _ => exact this⟩
  refine ⟨fun q1 q2 q3 => .mono (h1.out q1 q2 q3) (fun e s' hh => ⟨?_⟩)⟩
  have := hh.out
  cases e with
  | exit id' => exact ⟨fun e => key2 _ _ (this.1 e), fun e => key2 _ _ (this.2 e)⟩
  | _ => exact key2 _ _ this
/-- s[:hi] at a slice of one's own -/
theorem AW.slrTo {cl : Oper → Cls} {ops : Array Oper} {l : List Oper} {K : AS → Prop} {d : Nat} {ty : TypeId} {pos : String} {aft : Array Edge} {tt : TypeId} {x hi : Operand} {el bs m tk off q : Nat} {zc : List Value} {k1 : IntKind} {z : Int} (hx : evA t x = .ref tk off 1 m) (ht : T tt = .sl el 1 bs zc) (hl : evA t hi = .sc (.int k1 z)) (hz : z = (q : Int)) (hb : q ≤ m)
    (hk : AW P T M cl ops l ⟨upd t d (.ref tk off 1 q), h⟩ K) : AW P T M cl ops (⟨some d, .slice tt x none (some hi) none, ty, pos, aft, none⟩ :: l) ⟨t, h⟩ K := by
  subst hz
  have := AW.slr (P := P) (M := M) (cl := cl) (ops := ops) (l := l) (h := h) (K := K) (d := d) (ty := ty) (pos := pos) (aft := aft) (lo := none) (hi := some hi) hx ht rfl ⟨_, hl⟩ ⟨Int.le_refl _, by omega, by omega⟩
  rw [show off + (0 : Int).toNat * 1 = off by simp, show ((q : Nat) : Int).toNat - (0 : Int).toNat = q by simp] at this
  exact this hk
end Go.Proofs.Ytgjfpmjllpgadaa

/- Steps of regions that keep the order of their text: clear at a slice of one's own. Nothing of the program is here. -/
set_option linter.unusedVariables false
set_option linter.unusedSimpArgs false
namespace Go.Proofs.Ytgjfpmjllpgadaa
open Go.RowKit
variable {P : Program} {T : TypeId → TI} {M : Hn} {cl : Oper → Cls} {ops : Array Oper} {l : List Oper} {t : Nat → PV} {h : HP} {K : AS → Prop} {d : Nat} {ty : TypeId} {pos : String} {aft : Array Edge} {n : Nat} {Q : Exit → AS → Prop}

theorem HRel.cells {w0 : World} {Z0 : Nat → Prop} {ρ : Pl} {w : World} (H : HRel w0 Z0 ρ h w) {tk b k off : Nat} {cs cs2 : List PV} {arr : Array Value} {T : TypeId} {news : List Value} (hb : h.blk tk = some cs) (r1 : ρ tk = some (b, k)) (r3 : w.heap[b]? = some (.cells arr T (0, 0)))
    (hl : cs2.length = news.length) (hle : off + news.length ≤ cs.length) (hv : ∀ i, i < cs2.length → V ρ (Zof Z0 ρ h) w (cs2.getD i .junk) (news.getD i undef)) :
    HRel w0 Z0 ρ (h.set tk (cs.take off ++ cs2 ++ cs.drop (off + news.length))) (w.setRow b (arr.toList.take (k + off) ++ news ++ arr.toList.drop (k + off + news.length)).toArray) ∧
      ∀ pv u, V ρ (Zof Z0 ρ h) w pv u → V ρ (Zof Z0 ρ (h.set tk (cs.take off ++ cs2 ++ cs.drop (off + news.length)))) (w.setRow b (arr.toList.take (k + off) ++ news ++ arr.toList.drop (k + off + news.length)).toArray) pv u := by
  rcases H.live tk cs hb with ⟨_, k1⟩ | ⟨b', o', arr', T', k1, k2, k3, k4, k5⟩
  · rw [r1] at k1; cases k1
  rw [r1] at k1; cases k1
  rw [r3] at k3; cases k3
  have hlen : (cs.take off ++ cs2 ++ cs.drop (off + news.length)).length = cs.length := by simp; omega
  refine H.write hb r1 r3 _ (by simp; omega) _ (by omega) (fun i hi => ?_)
  rw [hlen] at hi
  rw [show ∀ (l : List Value) j, l.toArray.getD j undef = l.getD j undef from fun l j => by simp [Array.getD, List.getD]; split <;> simp_all]
  simp only [List.getD, List.append_assoc]
  by_cases c1 : i < off
  · have := k5 i hi
    simp only [List.getD] at this
    rw [List.getElem?_append_left (by simp; omega), List.getElem?_take, if_pos c1, List.getElem?_append_left (by simp; omega), List.getElem?_take, if_pos (by omega)]
    have hi2 : k + i < arr.size := by omega
    simpa [Array.getD, hi2] using this
  · have y1 : (List.take off cs ++ (cs2 ++ List.drop (off + news.length) cs))[i]? = (cs2 ++ List.drop (off + news.length) cs)[i - off]? := by
      rw [List.getElem?_append_right (by simp; omega)]
      congr 1; simp; omega
    have y2 : (List.take (k + off) arr.toList ++ (news ++ List.drop (k + off + news.length) arr.toList))[k + i]? = (news ++ List.drop (k + off + news.length) arr.toList)[i - off]? := by
      rw [List.getElem?_append_right (by simp; omega)]
      congr 1; simp; omega
    rw [y1, y2]
    by_cases c2 : i < off + news.length
    · have := hv (i - off) (by omega)
      simp only [List.getD] at this
      rw [List.getElem?_append_left (by omega), List.getElem?_append_left (by omega)]
      exact this
    · have := k5 i hi
      simp only [List.getD] at this
      rw [List.getElem?_append_right (by omega), List.getElem?_append_right (by omega), List.getElem?_drop, List.getElem?_drop]
      rw [show off + news.length + (i - off - cs2.length) = i by omega, show k + off + news.length + (i - off - news.length) = k + i by omega]
      have hi2 : k + i < arr.size := by omega
      simpa [Array.getD, hi2] using this
theorem zeroCells_one {c : Array Value} {z : Value} (n : Nat) (hz : c.toList = [z]) : (Builtin.zeroCells c n).toList = List.replicate n z := by
  obtain rfl : c = #[z] := by cases c; simp_all
  simp [Builtin.zeroCells]
  apply List.ext_getElem
  · simp
  · intro i h1 h2
    simp [Nat.mod_one]
/-- clear(s), s a slice of one's own of elements of one cell -/
theorem AW.clr {tt : TypeId} {x : Operand} {el bs tk off m : Nat} {z : Value} {cs : List PV} (hx : evA t x = .ref tk off 1 m) (ht : T tt = .sl el 1 bs [z]) (h0 : cl = (fun _ => Cls.wr)) (hb : h.blk tk = some cs) (hl : off + m ≤ cs.length) (h1 : z.oneCell' = true)
    (hk : AW P T M cl ops l ⟨t, h.set tk (cs.take off ++ List.replicate m (ofConst.ofCell z) ++ cs.drop (off + m))⟩ K) : AW P T M cl ops (⟨none, .call ⟨.builtin .clear, #[x], #[tt]⟩, ty, pos, aft, none⟩ :: l) ⟨t, h⟩ K := by
  refine ⟨.inr ⟨h0, .inl rfl, (fun _ hh => by cases hh), fun hT => ?_⟩⟩
  intro w0 Z0 ρ w a Kw Q H he hK
  have hS : SlT P tt el 1 bs [z] := by have := hT tt; rw [ht] at this; exact this.2.2
  obtain ⟨i, z', q1, q2, q3, q4, q5⟩ := hS.info
  have e1 := he x
  simp only at e1
  rw [hx] at e1
  obtain ⟨cap, A, ex, g1, g2, g3⟩ := e1.ref_inv
  have hK2 : ∀ u w' ρ', HRel w0 Z0 ρ' (h.set tk (cs.take off ++ List.replicate m (ofConst.ofCell z) ++ cs.drop (off + m))) w' → (∀ pv x, V ρ (Zof Z0 ρ h) w pv x → V ρ' (Zof Z0 ρ' (h.set tk (cs.take off ++ List.replicate m (ofConst.ofCell z) ++ cs.drop (off + m)))) w' pv x) → Kw (a.put none u) w' :=
    fun u w' ρ' H' up => hK .junk _ u w' ρ' hk.out H' (.junk _) up
  by_cases hm : m = 0
  · subst hm
    have e : h.set tk (cs.take off ++ List.replicate 0 (ofConst.ofCell z) ++ cs.drop (off + 0)) = h := by
      rw [List.replicate_zero, List.append_nil, Nat.add_zero, List.take_append_drop]; exact HP.set_self hb
    rw [e] at hK2
    refine wp_val (u := .tuple #[]) (w' := w) ?_ (hK2 _ w ρ H (fun _ _ h => h))
    cases A <;> simp [execOp, resolve, invoke, builtin, ex, Builtin.clear_, run_underlying hS.und]
  · obtain ⟨b, k, arr, T', r1, rfl, r3, r4⟩ := g3 (by omega)
    have hp := H.cells (off := off) (cs2 := List.replicate m (ofConst.ofCell z)) (news := List.replicate m z) hb r1 r3 (by simp) (by simpa using hl) (fun i hi => by
      have hi' : i < m := by simpa using hi
      simp only [List.getD, List.getElem?_replicate, if_pos hi', Option.getD_some]
      exact V.ofCell z)
    simp only [List.length_replicate] at hp
    obtain ⟨H', up⟩ := hp
    have hst := run_storeCells_at P b (k + off) T' (List.replicate m z) 0 arr w r3 (by simp; omega) (by intro v hv'; rw [List.eq_of_mem_replicate hv']; exact h1)
    simp only [Nat.add_zero, List.length_replicate] at hst
    refine wp_val (u := .tuple #[]) (w' := w.setRow b _) ?_ (hK2 _ _ ρ H' up)
    obtain ⟨m, rfl⟩ : ∃ m', m = m' + 1 := ⟨m - 1, by omega⟩
    simp [execOp, resolve, invoke, builtin, ex, Builtin.clear_, run_underlying hS.und, zeroValue, typeInfo, q1, q4, zeroCells_one _ q5, hst]
theorem bw_ref {tk off sz m : Nat} {cs r : List PV} (hb : h.blk tk = some cs) (hl : off + m * sz ≤ cs.length) (hr : (cs.drop off).take (m * sz) = r) : bw h (.ref tk off sz m) = .lst false sz m r := by
  subst hr
  simp only [bw, hb, if_pos hl]
theorem bwI {xs : List Int} {tk : Nat} (hb : h.blk tk = some (ints xs)) : bw h (.ref tk 0 1 xs.length) = pli xs :=
  bw_ref hb (by simp) (by rw [List.drop_zero, List.take_of_length_le (by simp)])
/-- s[lo:] at a slice of one's own -/
theorem AW.slrFr {P : Program} {T : TypeId → TI} {M : Hn} {t : Nat → PV} {h : HP} {cl : Oper → Cls} {ops : Array Oper} {l : List Oper} {K : AS → Prop} {d : Nat} {ty : TypeId} {pos : String} {aft : Array Edge} {tt : TypeId} {x lo : Operand} {el bs m tk off q : Nat} {zc : List Value} {k1 : IntKind} {z : Int} (hx : evA t x = .ref tk off 1 m) (ht : T tt = .sl el 1 bs zc) (hl : evA t lo = .sc (.int k1 z)) (hz : z = (q : Int)) (hb : q ≤ m)
    (hk : AW P T M cl ops l ⟨upd t d (.ref tk (off + q) 1 (m - q)), h⟩ K) : AW P T M cl ops (⟨some d, .slice tt x (some lo) none none, ty, pos, aft, none⟩ :: l) ⟨t, h⟩ K := by
  subst hz
  have := AW.slr (P := P) (M := M) (cl := cl) (ops := ops) (l := l) (h := h) (K := K) (d := d) (ty := ty) (pos := pos) (aft := aft) (lo := some lo) (hi := none) hx ht ⟨_, hl⟩ rfl ⟨by omega, by omega, Int.le_refl _⟩
  rw [show off + ((q : Nat) : Int).toNat * 1 = off + q by simp, show ((m : Nat) : Int).toNat - ((q : Nat) : Int).toNat = m - q by simp] at this
  exact this hk
end Go.Proofs.Ytgjfpmjllpgadaa

/- Steps with numbers that wrap, in regions that keep the order of their text; what a slot holds read anew. Nothing of the program is here. -/
set_option linter.unusedVariables false
set_option linter.unusedSimpArgs false
namespace Go.Proofs.Ytgjfpmjllpgadaa
open Go.RowKit
variable {P : Program} {T : TypeId → TI} {M : Hn} {cl : Oper → Cls} {ops : Array Oper} {l : List Oper} {t : Nat → PV} {h : HP} {K : AS → Prop} {d : Nat} {ty : TypeId} {pos : String} {aft : Array Edge} {n : Nat} {Q : Exit → AS → Prop}

/-- what a slot holds, its capacity forgotten -/
theorem CW.nrmS {c : Code} (d : Nat) {v : PV} (hv : (t d).nrm0 = v) (hk : CW P T M n c ⟨upd t d v, h⟩ Q) : CW P T M n c ⟨t, h⟩ Q := by
  refine ⟨fun h1 h2 h3 => ?_⟩
  have h4 := hk.out h1 h2 h3
  intro E w0 Z0 ρ a w R
  refine h4 E w0 Z0 ρ a w ⟨R.defers, R.size, fun x => ?_, R.heap, R.mem⟩
  by_cases e : x = d
  · subst e
    show V _ _ _ (upd t x v x) _
    rw [upd_same, ← hv]
    exact V.nrm0 (R.tmps x)
  · show V _ _ _ (upd t d v x) _
    rw [show upd t d v x = t x by simp [upd, e]]
    exact R.tmps x
end Go.Proofs.Ytgjfpmjllpgadaa

/- Calls of function values that turn the caller's heap; regions that draw their order and end in such a call. Nothing of the program is here. -/
set_option linter.unusedVariables false
set_option linter.unusedSimpArgs false
namespace Go.Proofs.Ytgjfpmjllpgadaa
open Go.RowKit

theorem OpE.callv {P : Program} {o : Oper} {s : AS} {K : PV → HP → Prop} {f : FuncId} {cap : List PV} {y : Operand} {xs : Array Operand} {ats : Array TypeId} (ho : o.op = .call ⟨.value y, xs, ats⟩) (hy : evA s.tmps y = .clo f cap) (hs : SChE P f (xs.toList.map (evA s.tmps) ++ cap) s.hp K) : OpE P o s K := by
  intro w0 Z0 ρ w a Kw Q H he hK
  have e1 := he y
  rw [hy] at e1
  obtain ⟨vs, e2, q1, q2⟩ := e1.clo_inv
  obtain ⟨hl, hv⟩ := map_args (ρ := ρ) (w := w) (rfl : xs.toList.map (evA s.tmps) = _) a.eval (Zof Z0 ρ s.hp) (fun x _ => he x)
  have hall : ∀ i, i < (xs.toList.map (evA s.tmps) ++ cap).length → V ρ (Zof Z0 ρ s.hp) w ((xs.toList.map (evA s.tmps) ++ cap).getD i .junk) ((xs.map a.eval ++ vs).getD i undef) := fun i hi => by
    by_cases c1 : i < xs.size
    · have := hv i (by simpa using c1)
      have e3 : (xs.toList.map (evA s.tmps) ++ cap).getD i .junk = (xs.toList.map (evA s.tmps)).getD i .junk := by simp [List.getD, List.getElem?_append_left (show i < (xs.toList.map (evA s.tmps)).length by simpa using c1)]
      have e4 : (xs.map a.eval ++ vs).getD i undef = (xs.map a.eval).getD i undef := by simp [Array.getElem?_append_left (show i < (xs.map a.eval).size by simpa using c1)]
      rw [e3, e4]; exact this
    · have := q2 (i - xs.size) (by simp at hi; omega)
      have e3 : (xs.toList.map (evA s.tmps) ++ cap).getD i .junk = cap.getD (i - xs.size) .junk := by simp [List.getD, List.getElem?_append_right (show (xs.toList.map (evA s.tmps)).length ≤ i by simpa using Nat.le_of_not_lt c1)]
      have e4 : (xs.map a.eval ++ vs).getD i undef = vs.getD (i - xs.size) undef := by simp [Array.getElem?_append_right (show (xs.map a.eval).size ≤ i by simpa using Nat.le_of_not_lt c1)]
      rw [e3, e4]; exact this
  obtain ⟨fn, k1, k2, k3⟩ := hs.1
  have k2' : fn.name ≠ "runtime.NumGoroutine" := by simpa using k2
  have k3' : fn.body ≠ none := by intro e; simp [e] at k3
  have hrun : (execOp a.eval o).run P w = .ok (.enter f (xs.map a.eval ++ vs)) w := by
    simp [execOp, ho, resolve, Deferred.ofValue, e2, invoke, callFunc, k1, k2', k3']
  unfold Oper.wp
  rw [hrun]
  refine (hs.2 w0 Z0 ρ w _ H (by simp [q1]) hall).mono ?_
  rintro _ w' ⟨u, ρ', r, h', rfl, hQ', H', hv', up⟩
  exact hK r h' u w' ρ' hQ' H' hv' up
section
variable {P : Program} {T : TypeId → TI} {M : Hn} {t : Nat → PV} {h : HP} {cl : Oper → Cls} {ops : Array Oper} {l : List Oper} {K : AS → Prop} {d : Nat} {ty : TypeId} {pos : String} {aft : Array Edge}
/-- a call of a function value that turns the heap -/
theorem AW.callve {y : Operand} {f : FuncId} {cap : List PV} {xs : Array Operand} {ats : Array TypeId} {args : List PV} {Q0 : PV → HP → Prop} (hy : evA t y = .clo f cap) (ha : xs.toList.map (evA t) ++ cap = args) (h0 : cl = (fun _ => Cls.wr)) (hs : SChE P f args h Q0) (hk : ∀ r h', Q0 r h' → AW P T M cl ops l ⟨upd t d r, h'⟩ K) :
    AW P T M cl ops (⟨some d, .call ⟨.value y, xs, ats⟩, ty, pos, aft, none⟩ :: l) ⟨t, h⟩ K :=
  ⟨.inr ⟨h0, .inl rfl, (fun _ hh => by cases hh), fun _ => .callv rfl hy (by subst ha; exact hs.mono (fun r h' hq => (hk r h' hq).out))⟩⟩
end

/-! ### a region that draws its order, the last operation apart -/
/-- what the last operation does -/
structure LW (P : Program) (T : TypeId → TI) (n : Nat) (x : Oper) (s : AS) (K : AS → Prop) : Prop where
  out : TOk P T → ∀ E w0 Z0 ρ a w (Kw : Act → World → Prop) (Q : Exit → Act → World → Prop), Rel E w0 Z0 ρ n s a w → (∀ ρ' s' a' w', Rel E w0 Z0 ρ' n s' a' w' → K s' → Kw a' w') → x.wp P a w Kw Q
theorem LW.ope {P : Program} {T : TypeId → TI} {n d : Nat} {x : Oper} {s : AS} {K : AS → Prop} (hd : x.dst = some d) (hn : d < n) (h : TOk P T → OpE P x s (fun v h' => K ⟨upd s.tmps d v, h'⟩)) : LW P T n x s K :=
  ⟨fun hT E w0 Z0 ρ a w Kw Q R hK => h hT w0 Z0 ρ w a _ _ R.heap (fun y => R.ev y) (fun v h' u w' ρ' hQ' H' hv' up => by
    have R' := R.put (d := x.dst) H' up (fun y hy => by rw [hd] at hy; cases hy; exact hn) hv'
    rw [hd] at R' ⊢
    exact hK ρ' _ _ w' R' hQ')⟩
/-- a slice of one's own is written no more -/
theorem LW.freeze {P : Program} {T : TypeId → TI} {n : Nat} {x : Oper} {t : Nat → PV} {h : HP} {K : AS → Prop} (d : Nat) {tk : Nat} {xs : List Int} (hd : t d = .ref tk 0 1 xs.length) (hb : h.blk tk = some (ints xs)) (hk : LW P T n x ⟨upd t d (pli xs), h.kill tk⟩ K) : LW P T n x ⟨t, h⟩ K := by
  refine ⟨fun hT E w0 Z0 ρ a w Kw Q R hK => ?_⟩
  have R' := R.freeze (d := d) hd hb (by simp)
  rw [show PV.lst false 1 xs.length (((ints xs).drop 0).take (xs.length * 1)) = pli xs by simp [ints_take, pli]] at R'
  exact hk.out hT E w0 Z0 ρ a w Kw Q R' hK

variable {P : Program} {E : PV → Value → Prop} {w0 : World} {Z0 : Nat → Prop} {n : Nat} {cl : Oper → Cls} {ops : Array Oper} {Q : Exit → Act → World → Prop}
/-- every operation ahead of the last one is bound ahead of it -/
def lastOk (ops : Array Oper) (m : Nat) : Bool := Nat.beq ops.size (m + 1) && (List.range m).all (fun j => anc ops ops.size m j)
end Go.Proofs.Ytgjfpmjllpgadaa
