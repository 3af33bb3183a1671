/- Steps of regions that keep the order of their text: clear at a slice of one's own. Nothing of the program is here. -/
import Derived.Test.YtpmdhkiolgpiaaaGMatchingProductsAY
set_option linter.unusedVariables false
set_option linter.unusedSimpArgs false
namespace Go.Proofs.Ytpmdhkiolgpiaaa
open Go.RowKit
variable {P : Program} {T : TypeId → TI} {M : Hn} {cl : Oper → Cls} {ops : Array Oper} {l : List Oper} {t : Nat → PV} {h : HP} {K : AS → Prop} {d : Nat} {ty : TypeId} {pos : String} {aft : Array Edge} {n : Nat} {Q : Exit → AS → Prop}

theorem HRel.cells {w0 : World} {Z0 : Nat → Prop} {ρ : Pl} {w : World} (H : HRel w0 Z0 ρ h w) {tk b k off : Nat} {cs cs2 : List PV} {arr : Array Value} {T : TypeId} {news : List Value} (hb : h.blk tk = some cs) (r1 : ρ tk = some (b, k)) (r3 : w.heap[b]? = some (.cells arr T (0, 0)))
    (hl : cs2.length = news.length) (hle : off + news.length ≤ cs.length) (hv : ∀ i, i < cs2.length → V ρ (Zof Z0 ρ h) w (cs2.getD i .junk) (news.getD i undef)) :
    HRel w0 Z0 ρ (h.set tk (cs.take off ++ cs2 ++ cs.drop (off + news.length))) (w.setRow b (arr.toList.take (k + off) ++ news ++ arr.toList.drop (k + off + news.length)).toArray) ∧
      ∀ pv u, V ρ (Zof Z0 ρ h) w pv u → V ρ (Zof Z0 ρ (h.set tk (cs.take off ++ cs2 ++ cs.drop (off + news.length)))) (w.setRow b (arr.toList.take (k + off) ++ news ++ arr.toList.drop (k + off + news.length)).toArray) pv u := by
  rcases H.live tk cs hb with ⟨_, k1⟩ | ⟨b', o', arr', T', k1, k2, k3, k4, k5⟩
  · rw [r1] at k1; cases k1
  rw [r1] at k1; cases k1
  rw [r3] at k3; cases k3
  have hlen : (cs.take off ++ cs2 ++ cs.drop (off + news.length)).length = cs.length := by simp; omega
  refine H.write hb r1 r3 _ (by simp; omega) _ (by omega) (fun i hi => ?_)
  rw [hlen] at hi
  rw [show ∀ (l : List Value) j, l.toArray.getD j undef = l.getD j undef from fun l j => by simp [Array.getD, List.getD]; split <;> simp_all]
  simp only [List.getD, List.append_assoc]
  by_cases c1 : i < off
  · have := k5 i hi
    simp only [List.getD] at this
    rw [List.getElem?_append_left (by simp; omega), List.getElem?_take, if_pos c1, List.getElem?_append_left (by simp; omega), List.getElem?_take, if_pos (by omega)]
    have hi2 : k + i < arr.size := by omega
    simpa [Array.getD, hi2] using this
  · have y1 : (List.take off cs ++ (cs2 ++ List.drop (off + news.length) cs))[i]? = (cs2 ++ List.drop (off + news.length) cs)[i - off]? := by
      rw [List.getElem?_append_right (by simp; omega)]
      congr 1; simp; omega
    have y2 : (List.take (k + off) arr.toList ++ (news ++ List.drop (k + off + news.length) arr.toList))[k + i]? = (news ++ List.drop (k + off + news.length) arr.toList)[i - off]? := by
      rw [List.getElem?_append_right (by simp; omega)]
      congr 1; simp; omega
    rw [y1, y2]
    by_cases c2 : i < off + news.length
    · have := hv (i - off) (by omega)
      simp only [List.getD] at this
      rw [List.getElem?_append_left (by omega), List.getElem?_append_left (by omega)]
      exact this
    · have := k5 i hi
      simp only [List.getD] at this
      rw [List.getElem?_append_right (by omega), List.getElem?_append_right (by omega), List.getElem?_drop, List.getElem?_drop]
      rw [show off + news.length + (i - off - cs2.length) = i by omega, show k + off + news.length + (i - off - news.length) = k + i by omega]
      have hi2 : k + i < arr.size := by omega
      simpa [Array.getD, hi2] using this
theorem zeroCells_one {c : Array Value} {z : Value} (n : Nat) (hz : c.toList = [z]) : (Builtin.zeroCells c n).toList = List.replicate n z := by
  obtain rfl : c = #[z] := by cases c; simp_all
  simp [Builtin.zeroCells]
  apply List.ext_getElem
  · simp
  · intro i h1 h2
    simp [Nat.mod_one]
/-- clear(s), s a slice of one's own of elements of one cell -/
theorem AW.clr {tt : TypeId} {x : Operand} {el bs tk off m : Nat} {z : Value} {cs : List PV} (hx : evA t x = .ref tk off 1 m) (ht : T tt = .sl el 1 bs [z]) (h0 : cl = (fun _ => Cls.wr)) (hb : h.blk tk = some cs) (hl : off + m ≤ cs.length) (h1 : z.oneCell' = true)
    (hk : AW P T M cl ops l ⟨t, h.set tk (cs.take off ++ List.replicate m (ofConst.ofCell z) ++ cs.drop (off + m))⟩ K) : AW P T M cl ops (⟨none, .call ⟨.builtin .clear, #[x], #[tt]⟩, ty, pos, aft, none⟩ :: l) ⟨t, h⟩ K := by
  refine ⟨.inr ⟨h0, .inl rfl, (fun _ hh => by cases hh), fun hT => ?_⟩⟩
  intro w0 Z0 ρ w a Kw Q H he hK
  have hS : SlT P tt el 1 bs [z] := by have := hT tt; rw [ht] at this; exact this.2.2
  obtain ⟨i, z', q1, q2, q3, q4, q5⟩ := hS.info
  have e1 := he x
  simp only at e1
  rw [hx] at e1
  obtain ⟨cap, A, ex, g1, g2, g3⟩ := e1.ref_inv
  have hK2 : ∀ u w' ρ', HRel w0 Z0 ρ' (h.set tk (cs.take off ++ List.replicate m (ofConst.ofCell z) ++ cs.drop (off + m))) w' → (∀ pv x, V ρ (Zof Z0 ρ h) w pv x → V ρ' (Zof Z0 ρ' (h.set tk (cs.take off ++ List.replicate m (ofConst.ofCell z) ++ cs.drop (off + m)))) w' pv x) → Kw (a.put none u) w' :=
    fun u w' ρ' H' up => hK .junk _ u w' ρ' hk.out H' (.junk _) up
  by_cases hm : m = 0
  · subst hm
    have e : h.set tk (cs.take off ++ List.replicate 0 (ofConst.ofCell z) ++ cs.drop (off + 0)) = h := by
      rw [List.replicate_zero, List.append_nil, Nat.add_zero, List.take_append_drop]; exact HP.set_self hb
    rw [e] at hK2
    refine wp_val (u := .tuple #[]) (w' := w) ?_ (hK2 _ w ρ H (fun _ _ h => h))
    cases A <;> simp [execOp, resolve, invoke, builtin, ex, Builtin.clear_, run_underlying hS.und]
  · obtain ⟨b, k, arr, T', r1, rfl, r3, r4⟩ := g3 (by omega)
    have hp := H.cells (off := off) (cs2 := List.replicate m (ofConst.ofCell z)) (news := List.replicate m z) hb r1 r3 (by simp) (by simpa using hl) (fun i hi => by
      have hi' : i < m := by simpa using hi
      simp only [List.getD, List.getElem?_replicate, if_pos hi', Option.getD_some]
      exact V.ofCell z)
    simp only [List.length_replicate] at hp
    obtain ⟨H', up⟩ := hp
    have hst := run_storeCells_at P b (k + off) T' (List.replicate m z) 0 arr w r3 (by simp; omega) (by intro v hv'; rw [List.eq_of_mem_replicate hv']; exact h1)
    simp only [Nat.add_zero, List.length_replicate] at hst
    refine wp_val (u := .tuple #[]) (w' := w.setRow b _) ?_ (hK2 _ _ ρ H' up)
    obtain ⟨m, rfl⟩ : ∃ m', m = m' + 1 := ⟨m - 1, by omega⟩
    simp [execOp, resolve, invoke, builtin, ex, Builtin.clear_, run_underlying hS.und, zeroValue, typeInfo, q1, q4, zeroCells_one _ q5, hst]
theorem bw_ref {tk off sz m : Nat} {cs r : List PV} (hb : h.blk tk = some cs) (hl : off + m * sz ≤ cs.length) (hr : (cs.drop off).take (m * sz) = r) : bw h (.ref tk off sz m) = .lst false sz m r := by
  subst hr
  simp only [bw, hb, if_pos hl]
/-- s[lo:] at a slice of one's own -/
theorem AW.slrFr {P : Program} {T : TypeId → TI} {M : Hn} {t : Nat → PV} {h : HP} {cl : Oper → Cls} {ops : Array Oper} {l : List Oper} {K : AS → Prop} {d : Nat} {ty : TypeId} {pos : String} {aft : Array Edge} {tt : TypeId} {x lo : Operand} {el bs m tk off q : Nat} {zc : List Value} {k1 : IntKind} {z : Int} (hx : evA t x = .ref tk off 1 m) (ht : T tt = .sl el 1 bs zc) (hl : evA t lo = .sc (.int k1 z)) (hz : z = (q : Int)) (hb : q ≤ m)
    (hk : AW P T M cl ops l ⟨upd t d (.ref tk (off + q) 1 (m - q)), h⟩ K) : AW P T M cl ops (⟨some d, .slice tt x (some lo) none none, ty, pos, aft, none⟩ :: l) ⟨t, h⟩ K := by
  subst hz
  have := AW.slr (P := P) (M := M) (cl := cl) (ops := ops) (l := l) (h := h) (K := K) (d := d) (ty := ty) (pos := pos) (aft := aft) (lo := some lo) (hi := none) hx ht ⟨_, hl⟩ rfl ⟨by omega, by omega, Int.le_refl _⟩
  rw [show off + ((q : Nat) : Int).toNat * 1 = off + q by simp, show ((m : Nat) : Int).toNat - ((q : Nat) : Int).toNat = m - q by simp] at this
  exact this hk
end Go.Proofs.Ytpmdhkiolgpiaaa
