/- Facts and contracts that the claim uses. No condition of its own. -/
import Derived.Test.YtkmkcbkfakoomaaDoorGRingTextsAK
import Derived.Laws.MakeOwn
import Derived.Laws.OwnMore
set_option linter.unusedVariables false
set_option linter.unusedSimpArgs false
namespace Go.Proofs.YtkmkcbkfakoomaaDoor
open Go.RowKit
variable {P : Program} {e : Operand → PV} {w0 : World} {Z0 : Nat → Prop} {ρ : Pl} {h h' : HP} {w : World} {o : Oper} {a : Act} {c : Cls} {v : PV} {K : Act → World → Prop} {Q : Exit → Act → World → Prop}
def Reads (ρ : Pl) (Z : Nat → Prop) (P : Program) (w : World) (sz n : Nat) (u : Value) (cs : List PV) (vs : List Value) : Prop :=
  vs.length = n * sz ∧ cs.length = n * sz ∧ (Builtin.firstCells sz n u).run P w = .ok vs.toArray w ∧ (Builtin.firstCells sz n u).run P w.drew = .ok vs.toArray w.drew ∧ ∀ i, i < n * sz → V ρ Z w (cs.getD i .junk) (vs.getD i undef)
theorem Reads.mk {sz n cap : Nat} {Z : Nat → Prop} {A : Option Addr} {cs : List PV} {f : Nat → Value} (hl : cs.length = n * sz)
    (ha : cs ≠ [] → ∃ b o, A = some ⟨b, o, none⟩ ∧ ∀ i, i < cs.length → w.cell? ⟨b, o + i, none⟩ = some (f i)) (hv : ∀ i, i < cs.length → V ρ Z w (cs.getD i .junk) (f i)) :
    Reads ρ Z P w sz n (.slice A n cap) cs ((List.range (n * sz)).map f) := by
  have key : ∀ w' : World, (∀ p, w'.cell? p = w.cell? p) → (Builtin.firstCells sz n (.slice A n cap)).run P w' = .ok ((List.range (n * sz)).map f).toArray w' := by
    intro w' hw'
    cases A with
    | none =>
      have : cs = [] := by
        apply Classical.byContradiction; intro hne
        obtain ⟨b, o, e, _⟩ := ha hne
        cases e
      subst this
      have h0 : n * sz = 0 := by simpa using hl.symm
      rw [h0]
      simp [Builtin.firstCells]
    | some ad =>
      refine run_firstCells_some (P := P) w' sz n ad n cap _ (by simp) (fun j u hj => ?_)
      rw [List.getElem?_map] at hj
      obtain ⟨q, hq, rfl⟩ := Option.map_eq_some_iff.1 hj
      obtain ⟨h1, h2⟩ := List.getElem?_eq_some_iff.1 hq
      rw [List.length_range] at h1
      rw [List.getElem_range] at h2
      subst h2
      obtain ⟨b, k, e, hc⟩ := ha (by intro e; rw [e] at hl; simp at hl; omega)
      cases e
      rw [Addr.add_lit, hw']
      exact hc j (by omega)
  refine ⟨by simp, hl, key w (fun _ => rfl), key w.drew (fun _ => rfl), fun i hi => ?_⟩
  have := hv i (by omega)
  have e1 : ((List.range (n * sz)).map f).getD i undef = f i := by simp [List.getD, hi]
  rw [e1]; exact this
theorem srcA.reads (H : HRel w0 Z0 ρ h w) {p : PV} {u : Value} {sz m : Nat} {cs : List PV} (hs : srcA h p sz m cs) (hv : V ρ (Zof Z0 ρ h) w p u) :
    ∃ (A : Option Addr) (cap : Nat) (vs : List Value), u = .slice A m cap ∧ Reads ρ (Zof Z0 ρ h) P w sz m u cs vs := by
  unfold srcA at hs
  split at hs
  · rename_i cl sz' m' cs'
    obtain ⟨rfl, rfl, hsz⟩ := hs
    obtain ⟨cap, A, f, rfl, g1, g2, g3, g4, g5, g6⟩ := hv.lst_inv
    have hl : cs'.length = m' * sz := by
      rcases hsz with h0 | rfl
      · subst h0; simpa using g4
      · exact g4
    exact ⟨A, cap, _, rfl, Reads.mk hl (fun hne => by obtain ⟨b, k, q1, q2, q3, q4⟩ := g5 hne; exact ⟨b, k, q1, q4⟩) g6⟩
  · rename_i tk off sz' m'
    obtain ⟨rfl, rfl, c, hb, hle, rfl⟩ := hs
    obtain ⟨cap, A, rfl, g1, g2, g3⟩ := hv.ref_inv
    have hl : ((c.drop off).take (m' * sz')).length = m' * sz' := by simp; omega
    by_cases hc : cap = 0
    · have h0 : m' = 0 := by omega
      subst h0
      exact ⟨A, cap, _, rfl, Reads.mk (f := fun _ => undef) hl (fun hne => by simp at hne) (fun i hi => by simp at hi)⟩
    · obtain ⟨b, k, arr, T, r1, rfl, r3, r4⟩ := g3 hc
      rcases H.live tk c hb with ⟨_, k1⟩ | ⟨b', o', arr', T', k1, k2, k3, k4, k5⟩
      · rw [r1] at k1; cases k1
      rw [r1] at k1; cases k1
      rw [r3] at k3; cases k3
      refine ⟨_, cap, _, rfl, Reads.mk (f := fun i => arr.getD (k + (off + i)) undef) hl (fun hne => ⟨b, k + off, rfl, fun i hi => ?_⟩) (fun i hi => ?_)⟩
      · rw [Nat.add_assoc]; exact cell_live r3 (by rw [hl] at hi; omega)
      · rw [hl] at hi
        have := k5 (off + i) (by omega)
        have e1 : ((c.drop off).take (m' * sz')).getD i .junk = c.getD (off + i) .junk := by simp [List.getD, List.getElem?_take, hi, List.getElem?_drop]
        rw [e1]; exact this
  · exact hs.elim
theorem run_app_room {t el sz bs : Nat} {zc : List Value} (s : SlT P t el sz bs zc) {ty : TypeId} {b k n cap m c2 : Nat} {A2 : Option Addr} {arr : Array Value} {T : TypeId} {news : List Value}
    (hg : w.heap[b]? = some (.cells arr T (0, 0))) (hf : (Builtin.firstCells sz m (.slice A2 m c2)).run P w = .ok news.toArray w) (hroom : n + m ≤ cap) (hfit : k + n * sz + news.length ≤ arr.size) (h1 : ∀ u ∈ news, u.oneCell' = true) :
    (Builtin.append_ #[t, t] ty #[.slice (some ⟨b, k, none⟩) n cap, .slice A2 m c2]).run P w =
      .ok (.slice (some ⟨b, k, none⟩) (n + m) cap) (w.setRow b (arr.toList.take (k + n * sz) ++ news ++ arr.toList.drop (k + n * sz + news.length)).toArray) := by
  obtain ⟨i, z, q1, q2, q3, q4, q5⟩ := s.info
  have hst := run_storeCells_at P b (k + n * sz) T news 0 arr w hg (by simpa using hfit) h1
  simp only [Nat.add_zero] at hst
  subst q2
  simp [Builtin.append_, run_underlying s.und, sizeOf, typeInfo, q1, Builtin.lenOf, hroom, hf, Addr.add_lit, hst]
theorem run_app_none {t el sz bs : Nat} {zc : List Value} (s : SlT P t el sz bs zc) {ty : TypeId} {n cap c2 : Nat} {A A2 : Option Addr} (hroom : n ≤ cap) :
    (Builtin.append_ #[t, t] ty #[.slice A n cap, .slice A2 0 c2]).run P w = .ok (.slice A n cap) w := by
  obtain ⟨i, z, q1, q2, q3, q4, q5⟩ := s.info
  have hf : (Builtin.firstCells i.size 0 (.slice A2 0 c2)).run P w = .ok #[] w := by
    cases A2 with
    | none => simp [Builtin.firstCells]
    | some ad => simpa using run_firstCells_some (P := P) w i.size 0 ad 0 c2 [] (by simp) (fun j v hj => by simp at hj)
  cases A <;> simp [Builtin.append_, run_underlying s.und, sizeOf, typeInfo, q1, Builtin.lenOf, hroom, hf, storeCells]
theorem run_app_grow {t el sz bs : Nat} {zc : List Value} (s : SlT P t el sz bs zc) {ty : TypeId} {n cap m c2 : Nat} {A A2 : Option Addr} {olds news : List Value} (ho : olds.length = n * sz) (hn : news.length = m * sz)
    (hfo : (Builtin.firstCells sz n (.slice A n cap)).run P w.drew = .ok olds.toArray w.drew) (hf : (Builtin.firstCells sz m (.slice A2 m c2)).run P w.drew = .ok news.toArray w.drew)
    (hg : cap < n + m) (hb : (n + m) * bs ≤ 140737488355328) (hb2 : n + m ≤ 140737488355328) :
    ∃ (arr : Array Value) (c : Nat), (Builtin.append_ #[t, t] ty #[.slice A n cap, .slice A2 m c2]).run P w = .ok (.slice (some ⟨w.heap.size, 0, none⟩) (n + m) c) (w.drew.alloc (.cells arr el)) ∧ n + m ≤ c ∧ c ≤ maxLen ∧ arr.size = c * sz ∧
      ∀ i, i < (n + m) * sz → arr.getD i undef = (olds ++ news).getD i undef := by
  obtain ⟨i, z, q1, q2, q3, q4, q5⟩ := s.info
  have hzs : z.cells.size = sz := by rw [← s.zlen, ← q5]; simp
  have hn1 : ¬ (n + m ≤ cap) := by omega
  have h63' : ¬ (9223372036854775807 < ((n : Int) + (m : Int))) := by omega
  have hfit := growslice_fits (bytes := bs) hg hb
  have h48' : ¬ (281474976710656 < Builtin.nextslicecap (n + m) cap * i.bytes) := by rw [q3]; omega
  refine ⟨olds.toArray ++ news.toArray ++ Builtin.zeroCells z.cells (grownCap w (n + m) cap el - (n + m)), grownCap w (n + m) cap el, ?_, grownCap_ge _ _ _ _, grownCap_le_maxLen _ _ _ _ (by unfold maxLen; omega), ?_, fun j hj => ?_⟩
  · subst q2
    simp [Builtin.append_, run_underlying s.und, sizeOf, typeInfo, zeroValue, q1, q4, Builtin.lenOf, hn1, h63', h48', Question.forced, hf, hfo, newRow, grownCap]
    congr 2
    apply Array.ext'
    simp [List.append_assoc]
  · have := grownCap_ge w (n + m) cap el
    simp only [Array.size_append, List.size_toArray, size_zeroCells, hzs, ho, hn, ← Nat.add_mul]
    congr 1; omega
  · have hj' : j < (olds ++ news).length := by rw [List.length_append, ho, hn, ← Nat.add_mul]; exact hj
    have e1 : (olds.toArray ++ news.toArray ++ Builtin.zeroCells z.cells (grownCap w (n + m) cap el - (n + m))) = ((olds ++ news) ++ (Builtin.zeroCells z.cells (grownCap w (n + m) cap el - (n + m))).toList).toArray := by
      apply Array.ext'; simp
    rw [e1]
    have e2 : ∀ (l : List Value) j, l.toArray.getD j undef = l.getD j undef := fun l j => by simp [Array.getD, List.getD]; split <;> simp_all
    rw [e2]
    simp only [List.getD]
    rw [List.getElem?_append_left hj']
theorem run_cpy {t el sz bs : Nat} {zc : List Value} (s : SlT P t el sz bs zc) {ty : TypeId} {n cap m c2 : Nat} {A A2 : Option Addr} {news : List Value} {w' : World}
    (hf : (Builtin.firstCells sz (min n m) (.slice A2 m c2)).run P w = .ok news.toArray w) (hst : ∀ ad, A = some ad → (storeCells ad news).run P w = .ok () w') (h0 : A = none → w' = w) :
    (Builtin.copy_ #[t, t] ty #[.slice A n cap, .slice A2 m c2]).run P w = .ok (.int .i64 (min n m : Nat)) w' := by
  obtain ⟨i, z, q1, q2, q3, q4, q5⟩ := s.info
  have e : Nat.min m n = min n m := Nat.min_comm m n
  subst q2
  simp only [Builtin.copy_, List.getElem?_toArray, List.getElem?_cons_zero, List.getElem?_cons_succ, Sem.run_bind, run_underlying s.und, Result.andThen_ok, Builtin.lenOf, Sem.run_pure, e, Go.Proofs.YtkmkcbkfakoomaaDoor.run_size q1, hf]
  cases A with
  | none =>
    obtain rfl := h0 rfl
    simp [goInt]
  | some ad =>
    have := hst ad rfl
    simp [this, goInt]
end Go.Proofs.YtkmkcbkfakoomaaDoor
