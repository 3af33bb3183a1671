/- Facts and contracts that the claim uses. No condition of its own. -/
import Derived.Test.YtkmkcbkfakoomaaDoorGRingTextsAJ
set_option linter.unusedVariables false
set_option linter.unusedSimpArgs false
namespace Go.Proofs.YtkmkcbkfakoomaaDoor
open Go.RowKit
variable {P : Program} {e : Operand → PV} {w0 : World} {Z0 : Nat → Prop} {ρ : Pl} {h h' : HP} {w : World} {o : Oper} {a : Act} {c : Cls} {v : PV} {K : Act → World → Prop} {Q : Exit → Act → World → Prop}
def Ko (w0 : World) (Z0 : Nat → Prop) (ρ : Pl) (h : HP) (w : World) (o : Oper) (a : Act) (v : PV) (h' : HP) (K : Act → World → Prop) : Prop :=
  ∀ u w' ρ', HRel w0 Z0 ρ' h' w' → V ρ' (Zof Z0 ρ' h') w' v u → (∀ pv x, V ρ (Zof Z0 ρ h) w pv x → V ρ' (Zof Z0 ρ' h') w' pv x) → K (a.put o.dst u) w'
theorem wp_val {u : Value} {w' : World} (hr : (execOp a.eval o).run P w = .ok (.value u) w') (hk : K (a.put o.dst u) w') : o.wp P a w K Q := by
  unfold Oper.wp; rw [hr]; exact hk
theorem wp_skip' {w' : World} (hr : (execOp a.eval o).run P w = .ok .skip w') (hk : K (a.put o.dst undef) w') : o.wp P a w K Q := by
  unfold Oper.wp; rw [hr]; exact hk
theorem Ko.here (H : HRel w0 Z0 ρ h w) (hK : Ko w0 Z0 ρ h w o a v h K) {u : Value} (hv : V ρ (Zof Z0 ρ h) w v u) : K (a.put o.dst u) w := hK u w ρ H hv (fun _ _ h => h)
theorem V.sc_inv {Z : Nat → Prop} {x u : Value} (h : V ρ Z w (.sc x) u) : u = x := by cases h; rfl
theorem V.lst_inv {Z : Nat → Prop} {cl : Bool} {sz n : Nat} {cs : List PV} {u : Value} (h : V ρ Z w (.lst cl sz n cs) u) : ∃ (cap : Nat) (A : Option Addr) (f : Nat → Value), u = .slice A n cap ∧ n ≤ cap ∧ (cl = true → cap = n) ∧ cap ≤ maxLen ∧ cs.length = n * sz ∧
    (cs ≠ [] → ∃ b o, A = some ⟨b, o, none⟩ ∧ ¬ Z b ∧ b < w.heap.size ∧ ∀ i, i < cs.length → w.cell? ⟨b, o + i, none⟩ = some (f i)) ∧ (∀ i, i < cs.length → V ρ Z w (cs.getD i .junk) (f i)) := by
  cases h with | lst _ _ _ cap _ A f hn hc hm hl ha hv => exact ⟨cap, A, f, rfl, hn, hc, hm, hl, ha, hv⟩
theorem V.ref_inv {Z : Nat → Prop} {t off sz n : Nat} {u : Value} (h : V ρ Z w (.ref t off sz n) u) : ∃ (cap : Nat) (A : Option Addr), u = .slice A n cap ∧ n ≤ cap ∧ cap ≤ maxLen ∧
    (cap ≠ 0 → ∃ (b o : Nat) (arr : Array Value) (T : TypeId), ρ t = some (b, o) ∧ A = some ⟨b, o + off, none⟩ ∧ w.heap[b]? = some (.cells arr T (0, 0)) ∧ o + off + cap * sz ≤ arr.size) := by
  cases h with | ref _ _ _ _ cap A hn hm hb => exact ⟨cap, A, rfl, hn, hm, hb⟩
theorem V.ptr_inv {Z : Nat → Prop} {t off : Nat} {u : Value} (h : V ρ Z w (.ptr t off) u) : ∃ b o, u = .pointer (some ⟨b, o + off, none⟩) ∧ ρ t = some (b, o) := by
  cases h with | ptr _ _ b o hr => exact ⟨b, o, rfl, hr⟩
theorem V.lptr_inv {Z : Nat → Prop} {cs : List PV} {u : Value} (h : V ρ Z w (.lptr cs) u) : ∃ (b o : Nat) (f : Nat → Value), u = .pointer (some ⟨b, o, none⟩) ∧ ¬ Z b ∧ b < w.heap.size ∧ (∀ i, i < cs.length → w.cell? ⟨b, o + i, none⟩ = some (f i)) ∧
    (∀ i, i < cs.length → V ρ Z w (cs.getD i .junk) (f i)) := by
  cases h with | lptr _ b o f hz hb hc hv => exact ⟨b, o, f, rfl, hz, hb, hc, hv⟩
theorem V.agg_inv {Z : Nat → Prop} {cs : List PV} {u : Value} (h : V ρ Z w (.agg cs) u) : ∃ vs, u = .agg vs ∧ cs.length = vs.size ∧ (∀ i, i < cs.length → V ρ Z w (cs.getD i .junk) (vs.getD i undef)) := by
  cases h with | agg _ vs hl hv => exact ⟨vs, rfl, hl, hv⟩
theorem V.tup_inv {Z : Nat → Prop} {cs : List PV} {u : Value} (h : V ρ Z w (.tup cs) u) : ∃ vs, u = .tuple vs ∧ cs.length = vs.size ∧ (∀ i, i < cs.length → V ρ Z w (cs.getD i .junk) (vs.getD i undef)) := by
  cases h with | tup _ vs hl hv => exact ⟨vs, rfl, hl, hv⟩
theorem V.lptr_drop {Z : Nat → Prop} {cs : List PV} {b o : Nat} {f : Nat → Value} (hz : ¬ Z b) (hb : b < w.heap.size) (hc : ∀ i, i < cs.length → w.cell? ⟨b, o + i, none⟩ = some (f i))
    (hv : ∀ i, i < cs.length → V ρ Z w (cs.getD i .junk) (f i)) (k : Nat) : V ρ Z w (.lptr (cs.drop k)) (.pointer (some ⟨b, o + k, none⟩)) :=
  .lptr _ b (o + k) (fun i => f (k + i)) hz hb (fun i hi => by have := hc (k + i) (by simp at hi; omega); rwa [← Nat.add_assoc] at this)
    (fun i hi => by have := hv (k + i) (by simp at hi; omega); simpa [List.getD, List.getElem?_drop] using this)
theorem elem_und {t el : TypeId} (ht : P.underlying t = some (.slice el)) : P.underlying t = some (.slice (P.elem t)) ∧ P.elem t = el := by
  have : P.elem t = el := by simp [Program.elem, ht]
  rw [this]; exact ⟨ht, rfl⟩
theorem run_size {t : TypeId} {i : TypeInfo} (hi : P.info? t = some i) (w : World) : (sizeOf t).run P w = .ok i.size w := by simp [sizeOf, typeInfo, hi]
theorem SlT.run_size {t el sz bs : Nat} {zc : List Value} (s : SlT P t el sz bs zc) (w : World) : (sizeOf el).run P w = .ok sz w := by
  obtain ⟨i, z, h1, h2, _⟩ := s.info
  rw [Go.Proofs.YtkmkcbkfakoomaaDoor.run_size h1, h2]
theorem ElT.run_agg {t sz : Nat} {ag : Bool} (s : ElT P t ag sz) (w : World) : (isAgg t).run P w = .ok ag w := by
  obtain ⟨d, h1, h2⟩ := s.und
  unfold isAgg
  simp only [Sem.run_bind, run_underlying h1, Result.andThen_ok]
  subst h2
  cases d <;> rfl
theorem ElT.run_size {t sz : Nat} {ag : Bool} (s : ElT P t ag sz) (w : World) : (sizeOf t).run P w = .ok sz w := by
  obtain ⟨i, h1, h2⟩ := s.info
  rw [Go.Proofs.YtkmkcbkfakoomaaDoor.run_size h1, h2]
theorem run_load1 {t : Nat} (s : ElT P t false 1) {b k : Nat} {u : Value} (hc : w.cell? ⟨b, k, none⟩ = some u) : (Instr.loadAt t (.pointer (some ⟨b, k, none⟩))).run P w = .ok u w := by
  simp [Instr.loadAt, Instr.sureAddr, loadVar, s.run_agg, hc]
theorem run_loadn {t sz : Nat} (s : ElT P t true sz) {b k : Nat} (f : Nat → Value) (hc : ∀ i, i < sz → w.cell? ⟨b, k + i, none⟩ = some (f i)) :
    (Instr.loadAt t (.pointer (some ⟨b, k, none⟩))).run P w = .ok (.agg ((List.range sz).map f).toArray) w := by
  have h1 := run_loadCells_list (P := P) w ⟨b, k, none⟩ ((List.range sz).map f) (fun j v hj => by
    rw [Addr.add_lit]
    rw [List.getElem?_map] at hj
    obtain ⟨q, hq, rfl⟩ := Option.map_eq_some_iff.1 hj
    obtain ⟨h1, h2⟩ := List.getElem?_eq_some_iff.1 hq
    rw [List.length_range] at h1
    rw [List.getElem_range] at h2
    subst h2
    exact hc j h1)
  rw [List.length_map, List.length_range] at h1
  simp only [Instr.loadAt, Instr.sureAddr, loadVar, Sem.run_bind, Sem.run_pure, Result.andThen_ok, s.run_agg, s.run_size, if_true, h1]
theorem cell_live {b k : Nat} {arr : Array Value} {T : TypeId} (hb : w.heap[b]? = some (.cells arr T (0, 0))) (hk : k < arr.size) : w.cell? ⟨b, k, none⟩ = some (arr.getD k undef) := by
  simp [World.cell?, hb, Array.getD, hk]
theorem ops_mem {o : Oper} {op : Op} (ho : o.op = op) {x : Operand} (hx : x ∈ op.operands) : x ∈ o.op.operands := by rw [ho]; exact hx
theorem flvs_spec {Z : Nat → Prop} : ∀ {cs : List PV} {l : List Value}, flvs cs = some l → ∀ (vs : List Value), cs.length = vs.length → (∀ i, i < cs.length → V ρ Z w (cs.getD i .junk) (vs.getD i undef)) → vs = l
  | [], l, h, vs, hl, _ => by
    simp only [flvs, Option.some.injEq] at h; subst h
    exact List.length_eq_zero_iff.1 hl.symm
  | c :: cs, l, h, vs, hl, hv => by
    cases vs with
    | nil => simp at hl
    | cons u vs =>
      cases c with
      | sc v =>
        simp only [flvs] at h
        obtain ⟨l', h1, rfl⟩ := Option.map_eq_some_iff.1 h
        have h0 := (hv 0 (by simp)).sc_inv
        have := flvs_spec h1 vs (by simpa using hl) (fun i hi => by simpa using hv (i + 1) (by simpa using hi))
        subst this
        simp at h0; rw [h0]
      | _ => simp [flvs] at h
theorem V.flv_inv {Z : Nat → Prop} {p : PV} {u v : Value} (h : V ρ Z w p u) (hf : flv p = some v) : u = v := by
  cases p with
  | sc x => simp [flv] at hf; subst hf; exact h.sc_inv
  | agg cs =>
    simp only [flv] at hf
    obtain ⟨l, h1, rfl⟩ := Option.map_eq_some_iff.1 hf
    obtain ⟨vs, rfl, g1, g2⟩ := h.agg_inv
    have := flvs_spec h1 vs.toList (by simpa using g1) (fun i hi => by
      have := g2 i hi
      have e : vs.toList.getD i undef = vs.getD i undef := by simp [List.getD, Array.getD]; split <;> simp_all
      rw [e]; exact this)
    rw [← this]
  | _ => simp [flv] at hf
theorem sound_bin {bop : BinOp} {T T2 : TypeId} {x y : Operand} {vx vy v' : Value} (ho : o.op = .binOp bop T x y T2) (hx : flv (e x) = some vx) (hy : flv (e y) = some vy)
    (hr : ∀ w, (do eqGuard bop T x y vx vy; binOp bop T vx vy : Sem Value).run P w = .ok v' w) (H : HRel w0 Z0 ρ h w) (he : ∀ x ∈ o.op.operands, V ρ (Zof Z0 ρ h) w (e x) (a.eval x))
    (hK : Ko w0 Z0 ρ h w o a (.sc v') h K) : o.wp P a w K Q := by
  have e1 := he x (ops_mem ho (by simp [Op.operands]))
  have e2 := he y (ops_mem ho (by simp [Op.operands]))
  have f1 := e1.flv_inv hx; have f2 := e2.flv_inv hy
  refine wp_val (u := v') (w' := w) ?_ (hK.here H (.sc _))
  have := hr w
  simp only [execOp, ho, f1, f2]
  simp only [Sem.run_bind] at this ⊢
  rw [this]
  rfl
theorem sound_sc1 {x : Operand} {vx v' : Value} (hm : x ∈ o.op.operands) (hx : e x = .sc vx) (hr : a.eval x = vx → (execOp a.eval o).run P w = .ok (.value v') w)
    (H : HRel w0 Z0 ρ h w) (he : ∀ x ∈ o.op.operands, V ρ (Zof Z0 ρ h) w (e x) (a.eval x)) (hK : Ko w0 Z0 ρ h w o a (.sc v') h K) : o.wp P a w K Q := by
  have e1 := he x hm
  rw [hx] at e1
  exact wp_val (hr e1.sc_inv) (hK.here H (.sc _))
theorem run_call {f : FuncId} {xs : Array Operand} {ats : Array TypeId} (ho : o.op = .call ⟨.value (.func f), xs, ats⟩) (hc : Callable P f) :
    (execOp a.eval o).run P w = .ok (.enter f (xs.map a.eval)) w := by
  obtain ⟨fn, h1, h2, h3⟩ := hc
  have h2' : fn.name ≠ "runtime.NumGoroutine" := by simpa using h2
  have h3' : fn.body ≠ none := by intro e; simp [e] at h3
  simp [execOp, ho, resolve, Deferred.ofValue, Act.eval, invoke, callFunc, h1, h2', h3']
theorem clL_mem : ∀ {cs : List PV}, PV.cl.clL cs = true ↔ ∀ c ∈ cs, c.cl = true
  | [] => by simp [PV.cl.clL]
  | c :: cs => by simp [PV.cl.clL, clL_mem (cs := cs)]
theorem clL_get {cs : List PV} (h : PV.cl.clL cs = true) (i : Nat) (hi : i < cs.length) : (cs.getD i .junk).cl = true := by
  rw [show cs.getD i .junk = cs[i] by simp [List.getD, hi]]
  exact clL_mem.1 h _ (List.getElem_mem hi)
theorem V.cl_any {Z : Nat → Prop} {ρ' : Pl} {pv : PV} {u : Value} (hv : V ρ Z w pv u) : pv.cl = true → V ρ' Z w pv u := by
  induction hv with
  | junk v => intro _; exact .junk v
  | sc v => intro _; exact .sc v
  | anyb b => intro _; exact .anyb b
  | lst clip sz n cap cs A f hn hc hm hl ha hv ih => intro h; exact .lst _ _ _ _ _ _ f hn hc hm hl ha (fun i hi => ih i hi (clL_get (by simpa [PV.cl] using h) i hi))
  | ref => intro h; simp [PV.cl] at h
  | ptr => intro h; simp [PV.cl] at h
  | lptr cs b o f hz hb hc hv ih => intro h; exact .lptr _ _ _ f hz hb hc (fun i hi => ih i hi (clL_get (by simpa [PV.cl] using h) i hi))
  | agg cs vs hl hv ih => intro h; exact .agg _ _ hl (fun i hi => ih i hi (clL_get (by simpa [PV.cl] using h) i hi))
  | tup cs vs hl hv ih => intro h; exact .tup _ _ hl (fun i hi => ih i hi (clL_get (by simpa [PV.cl] using h) i hi))
  | clo f cs vs hl hv ih => intro h; exact .clo _ _ _ hl (fun i hi => ih i hi (clL_get (by simpa [PV.cl] using h) i hi))
  | fmap m b h1 h2 h3 => intro _; exact .fmap m b h1 h2 h3
  | mref => intro h; simp [PV.cl] at h
  | itr => intro h; simp [PV.cl] at h
  | obj b o h1 h2 h3 => intro _; exact .obj b o h1 h2 h3
  | siz n h1 => intro _; exact .siz n h1
  | gfm kk ks ps b us h1 h2 h3 hl hv ih => intro h; exact .gfm _ _ _ _ us h1 h2 h3 hl (fun i hi => ih i hi (clL_get (by simpa [PV.cl] using h) i hi))
theorem sound_call {f : FuncId} {xs : Array Operand} {ats : Array TypeId} {args : List PV} {r : PV} (ho : o.op = .call ⟨.value (.func f), xs, ats⟩) (hs : SC P f args r)
    (Z : Nat → Prop) (hz : ∀ b, Z b → b < w.heap.size) (hl : xs.size = args.length) (hcl : PV.cl.clL args = true) (hv : ∀ i, i < args.length → V ρ Z w (args.getD i .junk) ((xs.map a.eval).getD i undef))
    (hk : ∀ u w', V ρ Z w' r u → Below w.heap.size w w' → K (a.put o.dst u) w') : o.wp P a w K Q := by
  unfold Oper.wp
  rw [run_call ho hs.1]
  refine (hs.2 Z w (xs.map a.eval) hz (by simp [hl]) (fun i hi => (hv i hi).cl_any (clL_get hcl i hi))).mono ?_
  rintro _ w' ⟨u, rfl, h1, h2⟩
  exact hk u w' (h1.ext (Ext.refl _ _) (fun _ _ h => h) (fun t p h => by cases h)) h2
theorem bare_any {Z Z' : Nat → Prop} {w w' : World} {ρ' : Pl} {p : PV} {u : Value} (hf : p.bare = true) (hv : V ρ Z w p u) : V ρ' Z' w' p u := by
  cases hv <;> first | exact .sc _ | exact .junk _ | simp [PV.bare] at hf
theorem sound_callo {f : FuncId} {xs : Array Operand} {ats : Array TypeId} {args : List PV} {sz n : Nat} {cs : List PV} (H : HRel w0 Z0 ρ h w) (ho : o.op = .call ⟨.value (.func f), xs, ats⟩) (hs : SCo P f args sz n cs)
    (Z : Nat → Prop) (hz : ∀ b, Z b → b < w.heap.size) (hl : xs.size = args.length) (hcl : PV.cl.clL args = true) (hv : ∀ i, i < args.length → V ρ Z w (args.getD i .junk) ((xs.map a.eval).getD i undef))
    (hZ : cs.all PV.bare = true ∨ Z = Zof Z0 ρ h) (hK : Ko w0 Z0 ρ h w o a (.ref (h.tok false) 0 sz n) (h.add false cs) K) : o.wp P a w K Q := by
  unfold Oper.wp
  rw [run_call ho hs.1]
  refine (hs.2 Z w (xs.map a.eval) hz (by simp [hl]) (fun i hi => (hv i hi).cl_any (clL_get hcl i hi))).mono ?_
  rintro _ w' ⟨A, cap, rfl, g1, g2, hb, g3, g4⟩
  have H' := H.step hb
  have up0 : ∀ pv x, V ρ (Zof Z0 ρ h) w pv x → V ρ (Zof Z0 ρ h) w' pv x := fun pv x hx => hx.ext (Ext.of_below hb) (fun _ _ h => h) (fun _ _ h => h)
  by_cases hcap : cap = 0
  · obtain rfl := g3 hcap
    obtain ⟨H2, up2⟩ := H'.empty false
    exact hK _ _ ρ H2 (.ref _ _ _ _ _ _ g1 g2 (fun hc => absurd hcap hc)) (fun pv x hx => up2 _ _ (up0 _ _ hx))
  · obtain ⟨b, k, arr, T, rfl, q1, q2, q3, q4, q5⟩ := g4 hcap
    obtain ⟨ρ', r1, r2, r3⟩ := H'.name q2 (Nat.le_trans H.below.size q1) (fun hz => absurd (H.zlt _ hz) (by omega)) (fun pv u => V ρ (fun k => Zof Z0 ρ h k ∨ k = b) w' pv u) (fun _ _ h => h)
      (fun t c hc b1 o1 hr arr2 T2 hb2 i hi => by
        rcases H.live t c hc with ⟨_, g1⟩ | ⟨b2, o2, a2, T2', g1, g2, g3, g4, g5⟩
        · rw [hr] at g1; cases g1
        rw [hr] at g1; cases g1
        rw [hb.block b1 (lt_of_heap g3), g3] at hb2; cases hb2
        exact (g5 i hi).ext (Ext.of_below hb) (fun k hk hz => hz.resolve_right (by omega)) (fun _ _ h => h)) (fun t c hc b' hr obj hb2 => by
        obtain ⟨b2, obj2, g1, g2, g3, g4⟩ := H.slive t c hc
        rw [hr] at g1; cases g1
        rw [hb.block b' (lt_of_heap g3), g3] at hb2; cases hb2
        exact g4.ext (Ext.of_below hb) (fun k hk hz => hz.resolve_right (by omega)) (fun _ _ h => h)) (o := k) false cs q4
      (fun i hi => by
        rcases hZ with hba | hZ
        · refine bare_any ?_ (q5 i hi)
          rw [show cs.getD i .junk = cs[i] by simp [List.getD, hi]]
          exact List.all_eq_true.1 hba _ (List.getElem_mem hi)
        · subst hZ
          exact (q5 i hi).ext (Ext.refl _ _) (fun _ _ h => h) (fun t p h => by cases h))
    exact hK _ _ ρ' r2 (.ref _ _ _ _ _ _ g1 g2 (fun _ => ⟨b, k, arr, T, r1, rfl, q2, by omega⟩)) (fun pv x hx => r3 _ _ (hx.ext (Ext.of_below hb) (fun k hk hz => hz.resolve_right (by omega)) (fun _ _ h => h)))
theorem V.cut {Z : Nat → Prop} {p : PV} {u : Value} {m q : Nat} (hv : V ρ Z w p u) (hm : lenA p = some m) (hq : q ≤ m) : ∃ A cap, u = .slice A m cap ∧ V ρ Z w (cutA q p) (.slice A q cap) := by
  unfold lenA at hm
  split at hm
  · rename_i cl sz n cs
    cases hm
    obtain ⟨cap, A, f, rfl, g1, g2, g3, g4, g5, g6⟩ := hv.lst_inv
    have hmul : q * sz ≤ m * sz := Nat.mul_le_mul_right _ hq
    have hl : (cs.take (q * sz)).length = q * sz := by simp; omega
    refine ⟨A, cap, rfl, .lst _ _ _ _ _ _ f (by omega) (fun h => by cases h) g3 hl (fun hne => ?_) (fun i hi => ?_)⟩
    · obtain ⟨b, o, e, h1, h2, h3⟩ := g5 (fun e => hne (by rw [e]; simp))
      exact ⟨b, o, e, h1, h2, fun i hi => h3 i (by omega)⟩
    · have := g6 i (by omega)
      have e1 : (cs.take (q * sz)).getD i .junk = cs.getD i .junk := by simp [List.getD, List.getElem?_take, show i < q * sz by omega]
      rw [e1]; exact this
  · rename_i tk off sz n
    cases hm
    obtain ⟨cap, A, rfl, g1, g2, g3⟩ := hv.ref_inv
    exact ⟨A, cap, rfl, .ref _ _ _ _ _ _ (by omega) g2 g3⟩
  · cases hm
theorem V.clo_inv {Z : Nat → Prop} {f : FuncId} {cs : List PV} {u : Value} (h : V ρ Z w (.clo f cs) u) : ∃ vs, u = .func (.func f) #[] vs ∧ cs.length = vs.size ∧ (∀ i, i < cs.length → V ρ Z w (cs.getD i .junk) (vs.getD i undef)) := by
  cases h with | clo _ _ vs hl hv => exact ⟨vs, rfl, hl, hv⟩
theorem V.mono {Z Z' : Nat → Prop} (hz : ∀ b, b < w.heap.size → Z' b → Z b) {pv : PV} {u : Value} (hv : V ρ Z w pv u) : V ρ Z' w pv u := hv.ext (Ext.refl _ _) hz (fun _ _ h => h)
theorem V.flat_any {Z Z' : Nat → Prop} {w w' : World} {ρ' : Pl} {r : PV} {u : Value} (hf : r.flat = true) (hv : V ρ Z w r u) : V ρ' Z' w' r u := by
  have cell : ∀ (p : PV) (q : Value), p.bare = true → V ρ Z w p q → V ρ' Z' w' p q := by
    intro p q hp hq
    cases hq <;> first | exact .sc _ | exact .junk _ | simp [PV.bare] at hp
  cases r with
  | junk => exact .junk _
  | sc x => cases hv; exact .sc _
  | tup vs =>
    obtain ⟨xs, rfl, h1, h2⟩ := hv.tup_inv
    refine .tup _ _ h1 (fun i hi => cell _ _ ?_ (h2 i hi))
    have := List.all_eq_true.1 hf (vs[i]) (List.getElem_mem hi)
    simpa [List.getD, hi] using this
  | agg vs =>
    obtain ⟨xs, rfl, h1, h2⟩ := hv.agg_inv
    refine .agg _ _ h1 (fun i hi => cell _ _ ?_ (h2 i hi))
    have := List.all_eq_true.1 hf (vs[i]) (List.getElem_mem hi)
    simpa [List.getD, hi] using this
  | _ => simp [PV.flat] at hf
theorem V.bw (H : HRel w0 Z0 ρ h w) {pv : PV} {u : Value} (hv : V ρ (Zof Z0 ρ h) w pv u) : V ρ Z0 w (bw h pv) u := by
  have key : ∀ {pv u}, V ρ (Zof Z0 ρ h) w pv u → V ρ Z0 w pv u := fun hv => hv.mono (fun _ _ hz => .inl hz)
  unfold Go.Proofs.YtkmkcbkfakoomaaDoor.bw
  split
  · rename_i t off sz n
    cases hb : h.blk t with
    | none => exact .junk _
    | some cs =>
      simp only
      split
      · rename_i hle
        obtain ⟨cap, A, rfl, g2, g3, g4⟩ := hv.ref_inv
        have hlen : ((cs.drop off).take (n * sz)).length = n * sz := by simp; omega
        by_cases hcap : cap = 0
        · have hn0 : n = 0 := by omega
          subst hn0
          refine .lst _ _ _ cap _ _ (fun _ => undef) g2 (fun hh => by cases hh) g3 hlen (fun hne => ?_) (fun i hi => ?_)
          · simp at hne
          · simp at hi
        · obtain ⟨b, o, arr, T, g1, rfl, g5, g6⟩ := g4 hcap
          rcases H.live t cs hb with ⟨_, k1⟩ | ⟨b', o', arr', T', k1, k2, k3, k4, k5⟩
          · rw [g1] at k1; cases k1
          rw [g1] at k1; cases k1
          rw [g5] at k3; cases k3
          refine .lst _ _ _ cap _ _ (fun i => arr.getD (o + (off + i)) undef) g2 (fun hh => by cases hh) g3 hlen (fun hne => ?_) (fun i hi => ?_)
          · refine ⟨b, o + off, rfl, fun hz => ?_, lt_of_heap g5, fun i hi => ?_⟩
            · have := H.z0 b hz; omega
            · rw [Nat.add_assoc]
              exact cell_live g5 (by rw [hlen] at hi; omega)
          · rw [hlen] at hi
            have := k5 (off + i) (by omega)
            have e1 : ((cs.drop off).take (n * sz)).getD i .junk = cs.getD (off + i) .junk := by simp [List.getD, List.getElem?_take, hi, List.getElem?_drop]
            rw [e1]
            exact key this
      · exact .junk _
  · rename_i t
    split
    · rename_i m hm
      cases hv with | mref _ b hr => ?_
      obtain ⟨b0, obj, q1, q2, q3, es, clk, rfl, q4⟩ := H.slive t _ hm
      rw [hr] at q1; cases q1
      exact .fmap _ _ (fun hz => by have := H.z0 b hz; omega) (lt_of_heap q3) ⟨es, clk, q3, q4⟩
    · exact .junk _
  · exact key hv
theorem map_args {xs : Array Operand} {f : Operand → PV} {args : List PV} (ha : xs.toList.map f = args) (g : Operand → Value) (Z : Nat → Prop) (hv : ∀ x ∈ xs.toList, V ρ Z w (f x) (g x)) :
    xs.size = args.length ∧ ∀ i, i < args.length → V ρ Z w (args.getD i .junk) ((xs.map g).getD i undef) := by
  subst ha
  refine ⟨by simp, fun i hi => ?_⟩
  have hi' : i < xs.size := by simpa using hi
  have e1 : (xs.toList.map f).getD i .junk = f xs[i] := by simp [List.getD, hi']
  have e2 : (xs.map g).getD i undef = g xs[i] := by simp [Array.getD, hi']
  rw [e1, e2]
  exact hv _ (by simp)
theorem V.of_one {Z : Nat → Prop} {p : PV} {u : Value} (h1 : p.one = true) (hv : V ρ Z w p u) : u.cells = #[u] := by
  have := hv.one h1
  cases u <;> simp_all [Value.oneCell', Value.cells]
theorem put_arr {o off : Nat} {cs : List PV} {arr : Array Value} {p : PV} {u : Value} {Z : Nat → Prop} (hl : o + cs.length ≤ arr.size)
    (hv : ∀ i, i < cs.length → V ρ Z w (cs.getD i .junk) (arr.getD (o + i) undef)) (hoff : off < cs.length) (hp : V ρ Z w p u) (i : Nat) (hi : i < (cs.set off p).length) :
    V ρ Z w ((cs.set off p).getD i .junk) ((arr.setIfInBounds (o + off) u).getD (o + i) undef) := by
  have hi' : i < cs.length := by simpa using hi
  by_cases e : i = off
  · subst e
    have e1 : (cs.set i p).getD i .junk = p := by simp [List.getD, hi']
    have e2 : (arr.setIfInBounds (o + i) u).getD (o + i) undef = u := by simp [Array.getD, show o + i < arr.size by omega]
    rw [e1, e2]; exact hp
  · have e1 : (cs.set off p).getD i .junk = cs.getD i .junk := by simp [List.getD, List.getElem?_set_ne (Ne.symm e)]
    have e2 : (arr.setIfInBounds (o + off) u).getD (o + i) undef = arr.getD (o + i) undef := by
      simp [Array.getElem?_setIfInBounds_ne (show o + off ≠ o + i by omega)]
    rw [e1, e2]; exact hv i hi'
theorem map_ofCell (zc : List Value) (i : Nat) (hi : i < (zc.map ofConst.ofCell).length) : V ρ (Zof Z0 ρ h) w ((zc.map ofConst.ofCell).getD i .junk) (zc.toArray.getD i undef) := by
  have hi' : i < zc.length := by simpa using hi
  have e1 : (zc.map ofConst.ofCell).getD i .junk = ofConst.ofCell zc[i] := by simp [List.getD, hi']
  have e2 : zc.toArray.getD i undef = zc[i] := by simp [Array.getD, hi']
  rw [e1, e2]
  exact V.ofCell _
end Go.Proofs.YtkmkcbkfakoomaaDoor
