/- Facts and contracts that the claim uses. No condition of its own. -/
import Derived.Test.YtkmkcbkfakoomaaDoorGRingTextsAN
set_option linter.unusedVariables false
set_option linter.unusedSimpArgs false
namespace Go.Proofs.YtkmkcbkfakoomaaDoor
open Go.RowKit
variable {P : Program} {E : PV → Value → Prop} {w0 : World} {Z0 : Nat → Prop} {ρ : Pl} {n : Nat} {cl : Oper → Cls} {ops : Array Oper} {w : World} {o : Oper} {a : Act} {s s' : AS} {K : Act → World → Prop} {Q : Exit → Act → World → Prop}
def Res (P : Program) (cl : Oper → Cls) (ops : Array Oper) (o : Oper) (s : AS) (v : PV) (h' : HP) : Prop :=
  match o.guard with
  | none => ∃ e, (∀ x ∈ o.op.operands, e x = evA s.tmps x) ∧ D P e (cl o) o s.hp v h'
  | some (j, want) => ∃ t b, (ops[j]?).bind (·.dst) = some t ∧ s.tmps t = .sc b ∧
      (b = .bool want → ∃ e, (∀ x ∈ o.op.operands, e x = evA s.tmps x) ∧ D P e (cl o) o s.hp v h') ∧ (b ≠ .bool want → v = .sc undef ∧ h' = s.hp)
def AStep (P : Program) (n : Nat) (cl : Oper → Cls) (ops : Array Oper) (o : Oper) (s s' : AS) : Prop :=
  (∀ d, o.dst = some d → d < n) ∧ ∃ v h', Res P cl ops o s v h' ∧ s' = ⟨putA s.tmps o.dst v, h'⟩
def AR (P : Program) (n : Nat) (cl : Oper → Cls) (ops : Array Oper) : List Oper → AS → (AS → Prop) → Prop
  | [], s, K => K s
  | o :: l, s, K => ∃ s', AStep P n cl ops o s s' ∧ AR P n cl ops l s' K
structure OkF (F : Fence) : Prop where
  fn : ∀ f, F.fn f
  depth : F.depth = none
  calls : ∀ (n : Nat) (P : Program) (f : FuncId) (args : Array Value) (w : World) (R : Ending → World → Prop), Calls P f args w R → CallsIn F n P f args w R
  rows : ∀ (n : Nat) (P : Program) (row : String) (args : Array Value) (w : World) (R : Value → World → Prop), Rows P row args w R → RowsIn F n P row args w R
theorem rowsIn_wide {n : Nat} {P : Program} {row : String} {args : Array Value} {w : World} {R : Value → World → Prop} (h : Rows P row args w R) : RowsIn Fence.wide n P row args w R :=
  fun c cs _ => let ⟨v, w', r, s⟩ := h c cs; ⟨v, w', r, stepsIn_wide.2 s⟩
theorem okf_wide : OkF Fence.wide := ⟨fun _ => trivial, rfl, fun _ _ _ _ _ _ h => callsIn_wide.2 h, fun _ _ _ _ _ _ h => rowsIn_wide h⟩
theorem op_in {F : Fence} (hF : OkF F) {m : Nat} {K : Act → World → Prop} (hd : ∀ c, o.op ≠ .defer c) (h : o.wp P a w K Q) : o.wpIn F m P a w K Q := by
  refine ⟨fun f _ => hF.fn f, ?_⟩
  rw [Oper.semAt_eq _ _ _ hd]
  unfold Oper.wp at h
  generalize (execOp a.eval o).run P w = r at h ⊢
  have hn : F.depth.isSome = true → 1 ≤ m := fun e => by rw [hF.depth] at e; cases e
  cases r with
  | ok nx w' =>
    cases nx with
    | enter f args => exact ⟨hn, hF.calls _ _ _ _ _ _ h⟩
    | row f args => exact ⟨hn, hF.rows _ _ _ _ _ _ h⟩
    | round => exact h.elim
    | _ => exact h
  | halt hh w' => cases hh <;> exact h
theorem D.nd {e : Operand → PV} {c : Cls} {h h' : HP} {v : PV} (d : D P e c o h v h') : ∀ x, o.op ≠ .defer x := by
  intro x hx
  cases d
  all_goals simp_all
theorem AStep.sound (h : AStep P n cl ops o s s') (R : Rel E w0 Z0 ρ n s a w) (hK : ∀ ρ' a' w', Rel E w0 Z0 ρ' n s' a' w' → K a' w') :
    if Region.wanted o (yielded ops a.tmps) then o.wp P a w K Q ∧ ∀ x, o.op ≠ .defer x else K (a.put o.dst undef) w := by
  obtain ⟨hd, v, h', hr, rfl⟩ := h
  have go : (∃ e, (∀ x ∈ o.op.operands, e x = evA s.tmps x) ∧ D P e (cl o) o s.hp v h') → o.wp P a w K Q ∧ ∀ x, o.op ≠ .defer x := by
    rintro ⟨e, he, d⟩
    refine ⟨?_, d.nd⟩
    exact d.sound R.heap (fun x hx => by rw [he x hx]; exact R.ev x) (fun u w' ρ' H' hv up => hK ρ' _ _ (R.put H' up hd hv))
  unfold Res at hr
  cases hg : o.guard with
  | none =>
    simp only [hg] at hr
    simp only [Region.wanted, hg, if_true]
    exact go hr
  | some q =>
    obtain ⟨j, want⟩ := q
    simp only [hg] at hr
    obtain ⟨t, b, h1, h2, h3, h4⟩ := hr
    have hv := R.tmps t
    rw [h2] at hv
    have hv := hv.sc_inv
    by_cases c : b = .bool want
    · have hlt : t < a.tmps.size := by
        apply Classical.byContradiction; intro c2
        rw [c] at hv
        simp [Array.getD, c2, undef] at hv
      have hy : yielded ops a.tmps j = some want := by
        have : a.tmps[t]? = some (.bool want) := by
          rw [Array.getElem?_eq_getElem hlt]
          simp [Array.getD, hlt] at hv
          rw [hv, c]
        simp [yielded, h1, this]
      simp only [Region.wanted, hg, hy]
      rw [if_pos (by simp)]; exact go (h3 c)
    · have hy : yielded ops a.tmps j ≠ some want := by
        intro hh
        apply c
        unfold yielded at hh
        rw [h1] at hh
        simp only [Option.bind_some] at hh
        split at hh
        · rename_i b2 hb2
          cases hh
          have hlt : t < a.tmps.size := (Array.getElem?_eq_some_iff.1 hb2).1
          rw [Array.getElem?_eq_getElem hlt] at hb2
          simp [Array.getD, hlt] at hv
          rw [← hv]
          simpa using hb2
        · cases hh
      simp only [Region.wanted, hg]
      rw [if_neg (by simpa using hy)]
      obtain ⟨rfl, rfl⟩ := h4 c
      exact hK ρ _ _ (R.put R.heap (fun _ _ h => h) hd (.sc _))
theorem AStep.soundIn {F : Fence} (hF : OkF F) {m : Nat} (h : AStep P n cl ops o s s') (R : Rel E w0 Z0 ρ n s a w) (hK : ∀ ρ' a' w', Rel E w0 Z0 ρ' n s' a' w' → K a' w') :
    if Region.wanted o (yielded ops a.tmps) then o.wpIn F m P a w K Q else (∀ f, o.about P w a.eval = some f → F.fn f) ∧ K (a.put o.dst undef) w := by
  have := h.sound (Q := Q) R hK
  split at this
  · rename_i hw; rw [if_pos hw]; exact op_in hF this.2 this.1
  · rename_i hw; rw [if_neg hw]; exact ⟨fun f _ => hF.fn f, this⟩
theorem AR.wpList {F : Fence} (hF : OkF F) {m : Nat} (Kx : AS → Prop) (hQ : ∀ ρ s a w, Rel E w0 Z0 ρ n s a w → Kx s → Q .normal a w) : ∀ (l : List Oper) (ρ : Pl) (s : AS) (a : Act) (w : World), AR P n cl ops l s Kx → Rel E w0 Z0 ρ n s a w → wpListIn F m P ops Q l a w
  | [], ρ, s, a, w, h, R => hQ ρ s a w R h
  | o :: l, ρ, s, a, w, h, R => by
    obtain ⟨s', h1, h2⟩ := h
    refine wpListIn_step (fun K hK => ?_)
    exact h1.soundIn hF R (fun ρ' a' w' R' => hK _ _ (AR.wpList hF Kx hQ l ρ' s' a' w' h2 R'))
/-! ### whatever order -/
def clsOk : Cls → Cls → Bool
  | .pure, _ | _, .pure => true
  | .read, .read | .readB, .readB | .read, .readB | .readB, .read => true
  | .readB, .wrS | .wrS, .readB => true
  | .readL, .readL | .readL, .read | .read, .readL | .readL, .readB | .readB, .readL | .readL, .wrA | .readL, .wrO => true
  | .wrA, .wrA => true
  | .readL, .wrM | .wrM, .wrM | .wrM, .wrQ => true
  | _, _ => false
def anc (ops : Array Oper) : Nat → Nat → Nat → Bool
  | 0, _, _ => false
  | f + 1, i, j => match ops[i]? with
    | none => false
    | some o => o.after.any fun e => Region.binds .any e && (e.on == j || anc ops f e.on j)
def chkDraw (cl : Oper → Cls) (ops : Array Oper) : Bool :=
  (List.range ops.size).all fun i => match ops[i]? with
    | none => false
    | some oi => (oi.after.all fun e => !Region.binds .any e || decide (e.on < i)) &&
      (List.range i).all fun j => match ops[j]? with
        | none => false
        | some oj => anc ops ops.size i j || (oj.apart ops oi && clsOk (cl oj) (cl oi))
theorem D.of_pure {e : Operand → PV} {h h' : HP} {v : PV} (d : D P e .pure o h v h') : h' = h ∧ ∀ h2, D P e .pure o h2 v h2 := by
  cases d with
  | move a1 => exact ⟨rfl, fun _ => .move a1⟩
  | bin a1 a2 a3 a4 => exact ⟨rfl, fun _ => .bin a1 a2 a3 a4⟩
  | eqn a1 a2 a3 a4 => exact ⟨rfl, fun _ => .eqn a1 a2 a3 a4⟩
  | capl a1 a2 => exact ⟨rfl, fun _ => .capl a1 a2⟩
  | callv a1 a2 a3 a4 a5 => exact ⟨rfl, fun _ => .callv a1 a2 a3 a4 a5⟩
  | mkf a1 => exact ⟨rfl, fun _ => .mkf a1⟩
  | pick a1 a2 => exact ⟨rfl, fun _ => .pick a1 a2⟩
  | un a1 a2 a3 => exact ⟨rfl, fun _ => .un a1 a2 a3⟩
  | conv a1 a2 a3 => exact ⟨rfl, fun _ => .conv a1 a2 a3⟩
  | bi2 a1 a2 a3 a4 => exact ⟨rfl, fun _ => .bi2 a1 a2 a3 a4⟩
  | bi1 a1 a2 a3 => exact ⟨rfl, fun _ => .bi1 a1 a2 a3⟩
  | index a1 a2 a3 a4 => exact ⟨rfl, fun _ => .index a1 a2 a3 a4⟩
  | slstr a1 a2 a3 a4 a5 a6 => exact ⟨rfl, fun _ => .slstr a1 a2 a3 a4 a5 a6⟩
  | lenl a1 a2 => exact ⟨rfl, fun _ => .lenl a1 a2⟩
  | lenr a1 a2 => exact ⟨rfl, fun _ => .lenr a1 a2⟩
  | ixl a1 a2 a3 a4 a5 => exact ⟨rfl, fun _ => .ixl a1 a2 a3 a4 a5⟩
  | ixr a1 a2 a3 a4 a5 => exact ⟨rfl, fun _ => .ixr a1 a2 a3 a4 a5⟩
  | ixap a1 a2 a3 a4 a5 => exact ⟨rfl, fun _ => .ixap a1 a2 a3 a4 a5⟩
  | ixal a1 a2 a3 a4 a5 => exact ⟨rfl, fun _ => .ixal a1 a2 a3 a4 a5⟩
  | slp a1 a2 a3 a4 a5 a6 a7 => exact ⟨rfl, fun _ => .slp a1 a2 a3 a4 a5 a6 a7⟩
  | ldl a1 a2 a3 => exact ⟨rfl, fun _ => .ldl a1 a2 a3⟩
  | ldla a1 a2 a3 => exact ⟨rfl, fun _ => .ldla a1 a2 a3⟩
  | ldm hc => simp at hc
  | ldma hc => simp at hc
  | fal a1 a2 => exact ⟨rfl, fun _ => .fal a1 a2⟩
  | fam a1 a2 => exact ⟨rfl, fun _ => .fam a1 a2⟩
  | fd a1 a2 a3 => exact ⟨rfl, fun _ => .fd a1 a2 a3⟩
  | fda a1 a2 a3 => exact ⟨rfl, fun _ => .fda a1 a2 a3⟩
  | ext a1 a2 a3 => exact ⟨rfl, fun _ => .ext a1 a2 a3⟩
  | nck a1 a2 => exact ⟨rfl, fun _ => .nck a1 a2⟩
  | boxl a1 a2 => exact ⟨rfl, fun _ => .boxl a1 a2⟩
  | boxs a1 a2 => exact ⟨rfl, fun _ => .boxs a1 a2⟩
  | sll a1 a2 a3 a4 a5 a6 a7 a8 => exact ⟨rfl, fun _ => .sll a1 a2 a3 a4 a5 a6 a7 a8⟩
  | sll3 a1 a2 a3 a4 a5 a6 a7 a8 a9 => exact ⟨rfl, fun _ => .sll3 a1 a2 a3 a4 a5 a6 a7 a8 a9⟩
  | slr3 a1 a2 a3 a4 a5 a6 a7 a8 => exact ⟨rfl, fun _ => .slr3 a1 a2 a3 a4 a5 a6 a7 a8⟩
  | slr a1 a2 a3 a4 a5 a6 a7 => exact ⟨rfl, fun _ => .slr a1 a2 a3 a4 a5 a6 a7⟩
  | ap0 hc => simp at hc
  | bld a1 a2 => exact ⟨rfl, fun _ => .bld a1 a2⟩
  | bsl a1 a2 a3 => exact ⟨rfl, fun _ => .bsl a1 a2 a3⟩
  | call a1 a2 a3 a4 => exact ⟨rfl, fun _ => .call a1 a2 a3 a4⟩
  | callb hc => simp at hc
  | st hc => simp at hc
  | sta hc => simp at hc
  | alloA hc => simp at hc
  | mkmA hc => simp at hc
  | insA hc => simp at hc
  | mk hc => simp at hc
  | alloS hc => simp at hc
  | callo hc => simp at hc
  | callob hc => simp at hc
  | callm hc => simp at hc
  | apr hc => simp at hc
  | apl hc => simp at hc
  | bslm hc => simp at hc
  | mlk a1 a2 a3 => exact ⟨rfl, fun _ => .mlk a1 a2 a3⟩
  | glk a1 a2 a3 a4 => exact ⟨rfl, fun _ => .glk a1 a2 a3 a4⟩
  | glen a1 a2 => exact ⟨rfl, fun _ => .glen a1 a2⟩
  | lenm a1 a2 a3 a4 => exact ⟨rfl, fun _ => .lenm a1 a2 a3 a4⟩
  | mlkm hc => simp [Cls.lkp] at hc
  | glkm hc => simp [Cls.lkp] at hc
  | glenm hc => simp [Cls.lkp] at hc
  | ent hc => simp [Cls.lkp] at hc
  | gent hc => simp [Cls.lkp] at hc
  | cpy hc => simp at hc
theorem D.of_read {e : Operand → PV} {h h' : HP} {v : PV} (d : D P e .read o h v h') : h' = h := by
  cases d with
  | move a1 => rfl
  | bin a1 a2 a3 a4 => rfl
  | eqn a1 a2 a3 a4 => rfl
  | capl a1 a2 => rfl
  | callv a1 a2 a3 a4 a5 => rfl
  | mkf a1 => rfl
  | pick a1 a2 => rfl
  | un a1 a2 a3 => rfl
  | conv a1 a2 a3 => rfl
  | bi2 a1 a2 a3 a4 => rfl
  | bi1 a1 a2 a3 => rfl
  | index a1 a2 a3 a4 => rfl
  | slstr a1 a2 a3 a4 a5 a6 => rfl
  | lenl a1 a2 => rfl
  | lenr a1 a2 => rfl
  | ixl a1 a2 a3 a4 a5 => rfl
  | ixr a1 a2 a3 a4 a5 => rfl
  | ixap a1 a2 a3 a4 a5 => rfl
  | ixal a1 a2 a3 a4 a5 => rfl
  | slp a1 a2 a3 a4 a5 a6 a7 => rfl
  | ldl a1 a2 a3 => rfl
  | ldla a1 a2 a3 => rfl
  | fal a1 a2 => rfl
  | fam a1 a2 => rfl
  | fd a1 a2 a3 => rfl
  | fda a1 a2 a3 => rfl
  | ext a1 a2 a3 => rfl
  | nck a1 a2 => rfl
  | boxl a1 a2 => rfl
  | boxs a1 a2 => rfl
  | sll a1 a2 a3 a4 a5 a6 a7 a8 => rfl
  | sll3 a1 a2 a3 a4 a5 a6 a7 a8 a9 => rfl
  | slr3 => rfl
  | slr a1 a2 a3 a4 a5 a6 a7 => rfl
  | bld a1 a2 => rfl
  | bsl a1 a2 a3 => rfl
  | call a1 a2 a3 a4 => rfl
  | ldm => rfl
  | ldma => rfl
  | ap0 => rfl
  | callb => rfl
  | st hc => simp at hc
  | sta hc => simp at hc
  | alloA hc => simp at hc
  | mkmA hc => simp at hc
  | insA hc => simp at hc
  | mk hc => simp at hc
  | alloS hc => simp at hc
  | callo hc => simp at hc
  | callob hc => simp at hc
  | callm hc => simp at hc
  | apr hc => simp at hc
  | apl hc => simp at hc
  | bslm hc => simp at hc
  | mlk => rfl
  | glk => rfl
  | glen => rfl
  | lenm => rfl
  | mlkm => rfl
  | glkm => rfl
  | glenm => rfl
  | ent => rfl
  | gent => rfl
  | cpy hc => simp at hc
theorem D.of_readB {e : Operand → PV} {h h' : HP} {v : PV} (d : D P e .readB o h v h') : h' = h ∧ ∀ h2 : HP, (∀ t, t % 2 = 1 → h2.blk t = h.blk t) → h2.sp = h.sp → D P e .readB o h2 v h2 := by
  cases d with
  | move a1 => exact ⟨rfl, fun _ _ _ => .move a1⟩
  | bin a1 a2 a3 a4 => exact ⟨rfl, fun _ _ _ => .bin a1 a2 a3 a4⟩
  | eqn a1 a2 a3 a4 => exact ⟨rfl, fun _ _ _ => .eqn a1 a2 a3 a4⟩
  | capl a1 a2 => exact ⟨rfl, fun _ _ _ => .capl a1 a2⟩
  | callv a1 a2 a3 a4 a5 => exact ⟨rfl, fun _ _ _ => .callv a1 a2 a3 a4 a5⟩
  | mkf a1 => exact ⟨rfl, fun _ _ _ => .mkf a1⟩
  | pick a1 a2 => exact ⟨rfl, fun _ _ _ => .pick a1 a2⟩
  | un a1 a2 a3 => exact ⟨rfl, fun _ _ _ => .un a1 a2 a3⟩
  | conv a1 a2 a3 => exact ⟨rfl, fun _ _ _ => .conv a1 a2 a3⟩
  | bi2 a1 a2 a3 a4 => exact ⟨rfl, fun _ _ _ => .bi2 a1 a2 a3 a4⟩
  | bi1 a1 a2 a3 => exact ⟨rfl, fun _ _ _ => .bi1 a1 a2 a3⟩
  | index a1 a2 a3 a4 => exact ⟨rfl, fun _ _ _ => .index a1 a2 a3 a4⟩
  | slstr a1 a2 a3 a4 a5 a6 => exact ⟨rfl, fun _ _ _ => .slstr a1 a2 a3 a4 a5 a6⟩
  | lenl a1 a2 => exact ⟨rfl, fun _ _ _ => .lenl a1 a2⟩
  | lenr a1 a2 => exact ⟨rfl, fun _ _ _ => .lenr a1 a2⟩
  | ixl a1 a2 a3 a4 a5 => exact ⟨rfl, fun _ _ _ => .ixl a1 a2 a3 a4 a5⟩
  | ixr a1 a2 a3 a4 a5 => exact ⟨rfl, fun _ _ _ => .ixr a1 a2 a3 a4 a5⟩
  | ixap a1 a2 a3 a4 a5 => exact ⟨rfl, fun _ _ _ => .ixap a1 a2 a3 a4 a5⟩
  | ixal a1 a2 a3 a4 a5 => exact ⟨rfl, fun _ _ _ => .ixal a1 a2 a3 a4 a5⟩
  | slp a1 a2 a3 a4 a5 a6 a7 => exact ⟨rfl, fun _ _ _ => .slp a1 a2 a3 a4 a5 a6 a7⟩
  | ldl a1 a2 a3 => exact ⟨rfl, fun _ _ _ => .ldl a1 a2 a3⟩
  | ldla a1 a2 a3 => exact ⟨rfl, fun _ _ _ => .ldla a1 a2 a3⟩
  | fal a1 a2 => exact ⟨rfl, fun _ _ _ => .fal a1 a2⟩
  | fam a1 a2 => exact ⟨rfl, fun _ _ _ => .fam a1 a2⟩
  | fd a1 a2 a3 => exact ⟨rfl, fun _ _ _ => .fd a1 a2 a3⟩
  | fda a1 a2 a3 => exact ⟨rfl, fun _ _ _ => .fda a1 a2 a3⟩
  | ext a1 a2 a3 => exact ⟨rfl, fun _ _ _ => .ext a1 a2 a3⟩
  | nck a1 a2 => exact ⟨rfl, fun _ _ _ => .nck a1 a2⟩
  | boxl a1 a2 => exact ⟨rfl, fun _ _ _ => .boxl a1 a2⟩
  | boxs a1 a2 => exact ⟨rfl, fun _ _ _ => .boxs a1 a2⟩
  | sll a1 a2 a3 a4 a5 a6 a7 a8 => exact ⟨rfl, fun _ _ _ => .sll a1 a2 a3 a4 a5 a6 a7 a8⟩
  | sll3 a1 a2 a3 a4 a5 a6 a7 a8 a9 => exact ⟨rfl, fun _ _ _ => .sll3 a1 a2 a3 a4 a5 a6 a7 a8 a9⟩
  | slr3 a1 a2 a3 a4 a5 a6 a7 a8 => exact ⟨rfl, fun _ _ _ => .slr3 a1 a2 a3 a4 a5 a6 a7 a8⟩
  | slr a1 a2 a3 a4 a5 a6 a7 => exact ⟨rfl, fun _ _ _ => .slr a1 a2 a3 a4 a5 a6 a7⟩
  | bld a1 a2 => exact ⟨rfl, fun _ _ _ => .bld a1 a2⟩
  | bsl a1 a2 a3 => exact ⟨rfl, fun _ _ _ => .bsl a1 a2 a3⟩
  | call a1 a2 a3 a4 => exact ⟨rfl, fun _ _ _ => .call a1 a2 a3 a4⟩
  | ldm hc a1 a2 a3 a4 => exact ⟨rfl, fun h2 hag _ => .ldm hc a1 a2 (by rw [hag _ (by simpa using hc)]; exact a3) a4⟩
  | ldma hc a1 a2 a3 a4 => exact ⟨rfl, fun h2 hag _ => .ldma hc a1 a2 (by rw [hag _ (by simpa using hc)]; exact a3) a4⟩
  | ap0 hc => simp at hc
  | callb hc => simp at hc
  | st hc => simp at hc
  | sta hc => simp at hc
  | alloA hc => simp at hc
  | mkmA hc => simp at hc
  | insA hc => simp at hc
  | mk hc => simp at hc
  | alloS hc => simp at hc
  | callo hc => simp at hc
  | callob hc => simp at hc
  | callm hc => simp at hc
  | apr hc => simp at hc
  | apl hc => simp at hc
  | bslm hc => simp at hc
  | mlk a1 a2 a3 => exact ⟨rfl, fun _ _ _ => .mlk a1 a2 a3⟩
  | glk a1 a2 a3 a4 => exact ⟨rfl, fun _ _ _ => .glk a1 a2 a3 a4⟩
  | glen a1 a2 => exact ⟨rfl, fun _ _ _ => .glen a1 a2⟩
  | lenm a1 a2 a3 a4 => exact ⟨rfl, fun _ _ _ => .lenm a1 a2 a3 a4⟩
  | mlkm hc a1 a2 a3 a4 => exact ⟨rfl, fun h2 _ hsp => .mlkm hc a1 a2 (by rw [hsp]; exact a3) a4⟩
  | glkm hc a1 a2 a3 a4 a5 => exact ⟨rfl, fun h2 _ hsp => .glkm hc a1 a2 (by rw [hsp]; exact a3) a4 a5⟩
  | glenm hc a1 a2 a3 => exact ⟨rfl, fun h2 _ hsp => .glenm hc a1 a2 (by rw [hsp]; exact a3)⟩
  | ent hc a1 a2 a3 => exact ⟨rfl, fun h2 _ hsp => .ent hc a1 a2 (by rw [hsp]; exact a3)⟩
  | gent hc a1 a2 a3 a4 => exact ⟨rfl, fun h2 _ hsp => .gent hc a1 a2 (by rw [hsp]; exact a3) a4⟩
  | cpy hc => simp at hc
theorem D.of_readL {e : Operand → PV} {h h' : HP} {v : PV} (d : D P e .readL o h v h') : h' = h ∧ ∀ h2 : HP, (∀ t cs, t % 2 = 0 → h.blk t = some cs → h2.blk t = some cs) → D P e .readL o h2 v h2 := by
  cases d with
  | move a1 => exact ⟨rfl, fun _ _ => .move a1⟩
  | bin a1 a2 a3 a4 => exact ⟨rfl, fun _ _ => .bin a1 a2 a3 a4⟩
  | eqn a1 a2 a3 a4 => exact ⟨rfl, fun _ _ => .eqn a1 a2 a3 a4⟩
  | capl a1 a2 => exact ⟨rfl, fun _ _ => .capl a1 a2⟩
  | callv a1 a2 a3 a4 a5 => exact ⟨rfl, fun _ _ => .callv a1 a2 a3 a4 a5⟩
  | mkf a1 => exact ⟨rfl, fun _ _ => .mkf a1⟩
  | pick a1 a2 => exact ⟨rfl, fun _ _ => .pick a1 a2⟩
  | un a1 a2 a3 => exact ⟨rfl, fun _ _ => .un a1 a2 a3⟩
  | conv a1 a2 a3 => exact ⟨rfl, fun _ _ => .conv a1 a2 a3⟩
  | bi2 a1 a2 a3 a4 => exact ⟨rfl, fun _ _ => .bi2 a1 a2 a3 a4⟩
  | bi1 a1 a2 a3 => exact ⟨rfl, fun _ _ => .bi1 a1 a2 a3⟩
  | index a1 a2 a3 a4 => exact ⟨rfl, fun _ _ => .index a1 a2 a3 a4⟩
  | slstr a1 a2 a3 a4 a5 a6 => exact ⟨rfl, fun _ _ => .slstr a1 a2 a3 a4 a5 a6⟩
  | lenl a1 a2 => exact ⟨rfl, fun _ _ => .lenl a1 a2⟩
  | lenr a1 a2 => exact ⟨rfl, fun _ _ => .lenr a1 a2⟩
  | ixl a1 a2 a3 a4 a5 => exact ⟨rfl, fun _ _ => .ixl a1 a2 a3 a4 a5⟩
  | ixr a1 a2 a3 a4 a5 => exact ⟨rfl, fun _ _ => .ixr a1 a2 a3 a4 a5⟩
  | ixap a1 a2 a3 a4 a5 => exact ⟨rfl, fun _ _ => .ixap a1 a2 a3 a4 a5⟩
  | ixal a1 a2 a3 a4 a5 => exact ⟨rfl, fun _ _ => .ixal a1 a2 a3 a4 a5⟩
  | slp a1 a2 a3 a4 a5 a6 a7 => exact ⟨rfl, fun _ _ => .slp a1 a2 a3 a4 a5 a6 a7⟩
  | ldl a1 a2 a3 => exact ⟨rfl, fun _ _ => .ldl a1 a2 a3⟩
  | ldla a1 a2 a3 => exact ⟨rfl, fun _ _ => .ldla a1 a2 a3⟩
  | fal a1 a2 => exact ⟨rfl, fun _ _ => .fal a1 a2⟩
  | fam a1 a2 => exact ⟨rfl, fun _ _ => .fam a1 a2⟩
  | fd a1 a2 a3 => exact ⟨rfl, fun _ _ => .fd a1 a2 a3⟩
  | fda a1 a2 a3 => exact ⟨rfl, fun _ _ => .fda a1 a2 a3⟩
  | ext a1 a2 a3 => exact ⟨rfl, fun _ _ => .ext a1 a2 a3⟩
  | nck a1 a2 => exact ⟨rfl, fun _ _ => .nck a1 a2⟩
  | boxl a1 a2 => exact ⟨rfl, fun _ _ => .boxl a1 a2⟩
  | boxs a1 a2 => exact ⟨rfl, fun _ _ => .boxs a1 a2⟩
  | sll a1 a2 a3 a4 a5 a6 a7 a8 => exact ⟨rfl, fun _ _ => .sll a1 a2 a3 a4 a5 a6 a7 a8⟩
  | sll3 a1 a2 a3 a4 a5 a6 a7 a8 a9 => exact ⟨rfl, fun _ _ => .sll3 a1 a2 a3 a4 a5 a6 a7 a8 a9⟩
  | slr3 a1 a2 a3 a4 a5 a6 a7 a8 => exact ⟨rfl, fun _ _ => .slr3 a1 a2 a3 a4 a5 a6 a7 a8⟩
  | slr a1 a2 a3 a4 a5 a6 a7 => exact ⟨rfl, fun _ _ => .slr a1 a2 a3 a4 a5 a6 a7⟩
  | bld a1 a2 => exact ⟨rfl, fun _ _ => .bld a1 a2⟩
  | bsl a1 a2 a3 => exact ⟨rfl, fun _ _ => .bsl a1 a2 a3⟩
  | call a1 a2 a3 a4 => exact ⟨rfl, fun _ _ => .call a1 a2 a3 a4⟩
  | ldm hc a1 a2 a3 a4 => exact ⟨rfl, fun h2 hag => .ldm hc a1 a2 (hag _ _ (by simpa using hc) a3) a4⟩
  | ldma hc a1 a2 a3 a4 => exact ⟨rfl, fun h2 hag => .ldma hc a1 a2 (hag _ _ (by simpa using hc) a3) a4⟩
  | ap0 hc => simp at hc
  | callb hc => simp at hc
  | st hc => simp at hc
  | sta hc => simp at hc
  | alloA hc => simp at hc
  | mkmA hc => simp at hc
  | insA hc => simp at hc
  | mk hc => simp at hc
  | alloS hc => simp at hc
  | callo hc => simp at hc
  | callob hc => simp at hc
  | callm hc => simp at hc
  | apr hc => simp at hc
  | apl hc => simp at hc
  | bslm hc => simp at hc
  | mlk a1 a2 a3 => exact ⟨rfl, fun _ _ => .mlk a1 a2 a3⟩
  | glk a1 a2 a3 a4 => exact ⟨rfl, fun _ _ => .glk a1 a2 a3 a4⟩
  | glen a1 a2 => exact ⟨rfl, fun _ _ => .glen a1 a2⟩
  | lenm a1 a2 a3 a4 => exact ⟨rfl, fun _ _ => .lenm a1 a2 a3 a4⟩
  | mlkm hc => simp [Cls.lkp] at hc
  | glkm hc => simp [Cls.lkp] at hc
  | glenm hc => simp [Cls.lkp] at hc
  | ent hc => simp [Cls.lkp] at hc
  | gent hc => simp [Cls.lkp] at hc
  | cpy hc => simp at hc
theorem D.of_wrS {e : Operand → PV} {h h' : HP} {v : PV} (d : D P e .wrS o h v h') : (∀ t, t % 2 = 1 → h'.blk t = h.blk t) ∧ h'.sp = h.sp := by
  cases d with
  | move a1 => exact ⟨fun _ _ => rfl, rfl⟩
  | bin a1 a2 a3 a4 => exact ⟨fun _ _ => rfl, rfl⟩
  | eqn a1 a2 a3 a4 => exact ⟨fun _ _ => rfl, rfl⟩
  | capl a1 a2 => exact ⟨fun _ _ => rfl, rfl⟩
  | callv a1 a2 a3 a4 a5 => exact ⟨fun _ _ => rfl, rfl⟩
  | mkf a1 => exact ⟨fun _ _ => rfl, rfl⟩
  | pick a1 a2 => exact ⟨fun _ _ => rfl, rfl⟩
  | un a1 a2 a3 => exact ⟨fun _ _ => rfl, rfl⟩
  | conv a1 a2 a3 => exact ⟨fun _ _ => rfl, rfl⟩
  | bi2 a1 a2 a3 a4 => exact ⟨fun _ _ => rfl, rfl⟩
  | bi1 a1 a2 a3 => exact ⟨fun _ _ => rfl, rfl⟩
  | index a1 a2 a3 a4 => exact ⟨fun _ _ => rfl, rfl⟩
  | slstr a1 a2 a3 a4 a5 a6 => exact ⟨fun _ _ => rfl, rfl⟩
  | lenl a1 a2 => exact ⟨fun _ _ => rfl, rfl⟩
  | lenr a1 a2 => exact ⟨fun _ _ => rfl, rfl⟩
  | ixl a1 a2 a3 a4 a5 => exact ⟨fun _ _ => rfl, rfl⟩
  | ixr a1 a2 a3 a4 a5 => exact ⟨fun _ _ => rfl, rfl⟩
  | ixap a1 a2 a3 a4 a5 => exact ⟨fun _ _ => rfl, rfl⟩
  | ixal a1 a2 a3 a4 a5 => exact ⟨fun _ _ => rfl, rfl⟩
  | slp a1 a2 a3 a4 a5 a6 a7 => exact ⟨fun _ _ => rfl, rfl⟩
  | ldl a1 a2 a3 => exact ⟨fun _ _ => rfl, rfl⟩
  | ldla a1 a2 a3 => exact ⟨fun _ _ => rfl, rfl⟩
  | fal a1 a2 => exact ⟨fun _ _ => rfl, rfl⟩
  | fam a1 a2 => exact ⟨fun _ _ => rfl, rfl⟩
  | fd a1 a2 a3 => exact ⟨fun _ _ => rfl, rfl⟩
  | fda a1 a2 a3 => exact ⟨fun _ _ => rfl, rfl⟩
  | ext a1 a2 a3 => exact ⟨fun _ _ => rfl, rfl⟩
  | nck a1 a2 => exact ⟨fun _ _ => rfl, rfl⟩
  | boxl a1 a2 => exact ⟨fun _ _ => rfl, rfl⟩
  | boxs a1 a2 => exact ⟨fun _ _ => rfl, rfl⟩
  | sll a1 a2 a3 a4 a5 a6 a7 a8 => exact ⟨fun _ _ => rfl, rfl⟩
  | sll3 a1 a2 a3 a4 a5 a6 a7 a8 a9 => exact ⟨fun _ _ => rfl, rfl⟩
  | slr3 => exact ⟨fun _ _ => rfl, rfl⟩
  | slr a1 a2 a3 a4 a5 a6 a7 => exact ⟨fun _ _ => rfl, rfl⟩
  | bld a1 a2 => exact ⟨fun _ _ => rfl, rfl⟩
  | bsl a1 a2 a3 => exact ⟨fun _ _ => rfl, rfl⟩
  | call a1 a2 a3 a4 => exact ⟨fun _ _ => rfl, rfl⟩
  | ldm => exact ⟨fun _ _ => rfl, rfl⟩
  | ldma => exact ⟨fun _ _ => rfl, rfl⟩
  | ap0 => exact ⟨fun _ _ => rfl, rfl⟩
  | callb => exact ⟨fun _ _ => rfl, rfl⟩
  | st hc => exact ⟨fun t ht => HP.set_even ht (by simpa using hc), rfl⟩
  | sta hc => exact ⟨fun t ht => HP.set_even ht (by simpa using hc), rfl⟩
  | alloA hc => simp at hc
  | mkmA hc => simp at hc
  | insA hc => simp at hc
  | mk => exact ⟨fun t ht => HP.add_even ht, rfl⟩
  | alloS => exact ⟨fun t ht => HP.add_even ht, rfl⟩
  | callo => exact ⟨fun t ht => HP.add_even ht, rfl⟩
  | callob => exact ⟨fun t ht => HP.add_even ht, rfl⟩
  | callm hc => exact ⟨fun t ht => HP.set_even ht (by simpa using hc), rfl⟩
  | apr hc => exact ⟨fun t ht => (HP.add_even ht).trans (HP.kill_even ht (by simpa using hc)), rfl⟩
  | apl => exact ⟨fun t ht => HP.add_even ht, rfl⟩
  | bslm => exact ⟨fun t ht => HP.add_even ht, rfl⟩
  | mlk => exact ⟨fun _ _ => rfl, rfl⟩
  | glk => exact ⟨fun _ _ => rfl, rfl⟩
  | glen => exact ⟨fun _ _ => rfl, rfl⟩
  | lenm => exact ⟨fun _ _ => rfl, rfl⟩
  | mlkm => exact ⟨fun _ _ => rfl, rfl⟩
  | glkm => exact ⟨fun _ _ => rfl, rfl⟩
  | glenm => exact ⟨fun _ _ => rfl, rfl⟩
  | ent => exact ⟨fun _ _ => rfl, rfl⟩
  | gent => exact ⟨fun _ _ => rfl, rfl⟩
  | cpy hc => exact ⟨fun t ht => HP.set_even ht (by simpa using hc), rfl⟩
theorem D.of_wrO {e : Operand → PV} {h h' : HP} {v : PV} (d : D P e .wrO o h v h') : (∀ t, t % 2 = 0 → h'.blk t = h.blk t) ∧ h'.sp = h.sp := by
  cases d with
  | move a1 => exact ⟨fun _ _ => rfl, rfl⟩
  | bin a1 a2 a3 a4 => exact ⟨fun _ _ => rfl, rfl⟩
  | eqn a1 a2 a3 a4 => exact ⟨fun _ _ => rfl, rfl⟩
  | capl a1 a2 => exact ⟨fun _ _ => rfl, rfl⟩
  | callv a1 a2 a3 a4 a5 => exact ⟨fun _ _ => rfl, rfl⟩
  | mkf a1 => exact ⟨fun _ _ => rfl, rfl⟩
  | pick a1 a2 => exact ⟨fun _ _ => rfl, rfl⟩
  | un a1 a2 a3 => exact ⟨fun _ _ => rfl, rfl⟩
  | conv a1 a2 a3 => exact ⟨fun _ _ => rfl, rfl⟩
  | bi2 a1 a2 a3 a4 => exact ⟨fun _ _ => rfl, rfl⟩
  | bi1 a1 a2 a3 => exact ⟨fun _ _ => rfl, rfl⟩
  | index a1 a2 a3 a4 => exact ⟨fun _ _ => rfl, rfl⟩
  | slstr a1 a2 a3 a4 a5 a6 => exact ⟨fun _ _ => rfl, rfl⟩
  | lenl a1 a2 => exact ⟨fun _ _ => rfl, rfl⟩
  | lenr a1 a2 => exact ⟨fun _ _ => rfl, rfl⟩
  | ixl a1 a2 a3 a4 a5 => exact ⟨fun _ _ => rfl, rfl⟩
  | ixr a1 a2 a3 a4 a5 => exact ⟨fun _ _ => rfl, rfl⟩
  | ixap a1 a2 a3 a4 a5 => exact ⟨fun _ _ => rfl, rfl⟩
  | ixal a1 a2 a3 a4 a5 => exact ⟨fun _ _ => rfl, rfl⟩
  | slp a1 a2 a3 a4 a5 a6 a7 => exact ⟨fun _ _ => rfl, rfl⟩
  | ldl a1 a2 a3 => exact ⟨fun _ _ => rfl, rfl⟩
  | ldla a1 a2 a3 => exact ⟨fun _ _ => rfl, rfl⟩
  | fal a1 a2 => exact ⟨fun _ _ => rfl, rfl⟩
  | fam a1 a2 => exact ⟨fun _ _ => rfl, rfl⟩
  | fd a1 a2 a3 => exact ⟨fun _ _ => rfl, rfl⟩
  | fda a1 a2 a3 => exact ⟨fun _ _ => rfl, rfl⟩
  | ext a1 a2 a3 => exact ⟨fun _ _ => rfl, rfl⟩
  | nck a1 a2 => exact ⟨fun _ _ => rfl, rfl⟩
  | boxl a1 a2 => exact ⟨fun _ _ => rfl, rfl⟩
  | boxs a1 a2 => exact ⟨fun _ _ => rfl, rfl⟩
  | sll a1 a2 a3 a4 a5 a6 a7 a8 => exact ⟨fun _ _ => rfl, rfl⟩
  | sll3 a1 a2 a3 a4 a5 a6 a7 a8 a9 => exact ⟨fun _ _ => rfl, rfl⟩
  | slr3 => exact ⟨fun _ _ => rfl, rfl⟩
  | slr a1 a2 a3 a4 a5 a6 a7 => exact ⟨fun _ _ => rfl, rfl⟩
  | bld a1 a2 => exact ⟨fun _ _ => rfl, rfl⟩
  | bsl a1 a2 a3 => exact ⟨fun _ _ => rfl, rfl⟩
  | call a1 a2 a3 a4 => exact ⟨fun _ _ => rfl, rfl⟩
  | ldm => exact ⟨fun _ _ => rfl, rfl⟩
  | ldma => exact ⟨fun _ _ => rfl, rfl⟩
  | ap0 => exact ⟨fun _ _ => rfl, rfl⟩
  | callb => exact ⟨fun _ _ => rfl, rfl⟩
  | st hc => exact ⟨fun t ht => HP.set_odd ht (by simpa using hc), rfl⟩
  | sta hc => exact ⟨fun t ht => HP.set_odd ht (by simpa using hc), rfl⟩
  | alloA hc => simp at hc
  | mkmA hc => simp at hc
  | insA hc => simp at hc
  | mk hc => simp at hc
  | alloS hc => simp at hc
  | callo hc => simp at hc
  | callob hc => simp at hc
  | callm hc => simp at hc
  | apr hc => simp at hc
  | apl hc => simp at hc
  | bslm hc => simp at hc
  | mlk => exact ⟨fun _ _ => rfl, rfl⟩
  | glk => exact ⟨fun _ _ => rfl, rfl⟩
  | glen => exact ⟨fun _ _ => rfl, rfl⟩
  | lenm => exact ⟨fun _ _ => rfl, rfl⟩
  | mlkm => exact ⟨fun _ _ => rfl, rfl⟩
  | glkm => exact ⟨fun _ _ => rfl, rfl⟩
  | glenm => exact ⟨fun _ _ => rfl, rfl⟩
  | ent => exact ⟨fun _ _ => rfl, rfl⟩
  | gent => exact ⟨fun _ _ => rfl, rfl⟩
  | cpy hc => simp at hc
theorem D.of_wrA {e : Operand → PV} {h h' : HP} {v : PV} (d : D P e .wrA o h v h') : (h' = h ∧ ∀ h2 : HP, h2.sp = h.sp → D P e .wrA o h2 v h2) ∨ ∃ tk cs, v = .ptr tk 0 ∧ h.win tk = true ∧ h' = h.put tk cs ∧ ∀ h2 : HP, h2.win tk = true → D P e .wrA o h2 v (h2.put tk cs) := by
  cases d with
  | move a1 => exact .inl ⟨rfl, fun _ _ => .move a1⟩
  | bin a1 a2 a3 a4 => exact .inl ⟨rfl, fun _ _ => .bin a1 a2 a3 a4⟩
  | eqn a1 a2 a3 a4 => exact .inl ⟨rfl, fun _ _ => .eqn a1 a2 a3 a4⟩
  | capl a1 a2 => exact .inl ⟨rfl, fun _ _ => .capl a1 a2⟩
  | callv a1 a2 a3 a4 a5 => exact .inl ⟨rfl, fun _ _ => .callv a1 a2 a3 a4 a5⟩
  | mkf a1 => exact .inl ⟨rfl, fun _ _ => .mkf a1⟩
  | pick a1 a2 => exact .inl ⟨rfl, fun _ _ => .pick a1 a2⟩
  | un a1 a2 a3 => exact .inl ⟨rfl, fun _ _ => .un a1 a2 a3⟩
  | conv a1 a2 a3 => exact .inl ⟨rfl, fun _ _ => .conv a1 a2 a3⟩
  | bi2 a1 a2 a3 a4 => exact .inl ⟨rfl, fun _ _ => .bi2 a1 a2 a3 a4⟩
  | bi1 a1 a2 a3 => exact .inl ⟨rfl, fun _ _ => .bi1 a1 a2 a3⟩
  | index a1 a2 a3 a4 => exact .inl ⟨rfl, fun _ _ => .index a1 a2 a3 a4⟩
  | slstr a1 a2 a3 a4 a5 a6 => exact .inl ⟨rfl, fun _ _ => .slstr a1 a2 a3 a4 a5 a6⟩
  | lenl a1 a2 => exact .inl ⟨rfl, fun _ _ => .lenl a1 a2⟩
  | lenr a1 a2 => exact .inl ⟨rfl, fun _ _ => .lenr a1 a2⟩
  | ixl a1 a2 a3 a4 a5 => exact .inl ⟨rfl, fun _ _ => .ixl a1 a2 a3 a4 a5⟩
  | ixr a1 a2 a3 a4 a5 => exact .inl ⟨rfl, fun _ _ => .ixr a1 a2 a3 a4 a5⟩
  | ixap a1 a2 a3 a4 a5 => exact .inl ⟨rfl, fun _ _ => .ixap a1 a2 a3 a4 a5⟩
  | ixal a1 a2 a3 a4 a5 => exact .inl ⟨rfl, fun _ _ => .ixal a1 a2 a3 a4 a5⟩
  | slp a1 a2 a3 a4 a5 a6 a7 => exact .inl ⟨rfl, fun _ _ => .slp a1 a2 a3 a4 a5 a6 a7⟩
  | ldl a1 a2 a3 => exact .inl ⟨rfl, fun _ _ => .ldl a1 a2 a3⟩
  | ldla a1 a2 a3 => exact .inl ⟨rfl, fun _ _ => .ldla a1 a2 a3⟩
  | ldm hc => simp at hc
  | ldma hc => simp at hc
  | fal a1 a2 => exact .inl ⟨rfl, fun _ _ => .fal a1 a2⟩
  | fam a1 a2 => exact .inl ⟨rfl, fun _ _ => .fam a1 a2⟩
  | fd a1 a2 a3 => exact .inl ⟨rfl, fun _ _ => .fd a1 a2 a3⟩
  | fda a1 a2 a3 => exact .inl ⟨rfl, fun _ _ => .fda a1 a2 a3⟩
  | ext a1 a2 a3 => exact .inl ⟨rfl, fun _ _ => .ext a1 a2 a3⟩
  | nck a1 a2 => exact .inl ⟨rfl, fun _ _ => .nck a1 a2⟩
  | boxl a1 a2 => exact .inl ⟨rfl, fun _ _ => .boxl a1 a2⟩
  | boxs a1 a2 => exact .inl ⟨rfl, fun _ _ => .boxs a1 a2⟩
  | sll a1 a2 a3 a4 a5 a6 a7 a8 => exact .inl ⟨rfl, fun _ _ => .sll a1 a2 a3 a4 a5 a6 a7 a8⟩
  | sll3 a1 a2 a3 a4 a5 a6 a7 a8 a9 => exact .inl ⟨rfl, fun _ _ => .sll3 a1 a2 a3 a4 a5 a6 a7 a8 a9⟩
  | slr3 a1 a2 a3 a4 a5 a6 a7 a8 => exact .inl ⟨rfl, fun _ _ => .slr3 a1 a2 a3 a4 a5 a6 a7 a8⟩
  | slr a1 a2 a3 a4 a5 a6 a7 => exact .inl ⟨rfl, fun _ _ => .slr a1 a2 a3 a4 a5 a6 a7⟩
  | ap0 hc => simp at hc
  | bld a1 a2 => exact .inl ⟨rfl, fun _ _ => .bld a1 a2⟩
  | bsl a1 a2 a3 => exact .inl ⟨rfl, fun _ _ => .bsl a1 a2 a3⟩
  | call a1 a2 a3 a4 => exact .inl ⟨rfl, fun _ _ => .call a1 a2 a3 a4⟩
  | callb hc => simp at hc
  | st hc => simp at hc
  | sta hc => simp at hc
  | alloA hc a1 a2 => exact .inr ⟨_, _, rfl, a2, rfl, fun h2 hw => .alloA rfl a1 hw⟩
  | mkmA hc => simp at hc
  | insA hc => simp at hc
  | mk hc => simp at hc
  | alloS hc => simp at hc
  | callo hc => simp at hc
  | callob hc => simp at hc
  | callm hc => simp at hc
  | apr hc => simp at hc
  | apl hc => simp at hc
  | bslm hc => simp at hc
  | mlk a1 a2 a3 => exact .inl ⟨rfl, fun _ _ => .mlk a1 a2 a3⟩
  | glk a1 a2 a3 a4 => exact .inl ⟨rfl, fun _ _ => .glk a1 a2 a3 a4⟩
  | glen a1 a2 => exact .inl ⟨rfl, fun _ _ => .glen a1 a2⟩
  | lenm a1 a2 a3 a4 => exact .inl ⟨rfl, fun _ _ => .lenm a1 a2 a3 a4⟩
  | mlkm hc a1 a2 a3 a4 => exact .inl ⟨rfl, fun h2 hsp => .mlkm hc a1 a2 (by rw [hsp]; exact a3) a4⟩
  | glkm hc a1 a2 a3 a4 a5 => exact .inl ⟨rfl, fun h2 hsp => .glkm hc a1 a2 (by rw [hsp]; exact a3) a4 a5⟩
  | glenm hc a1 a2 a3 => exact .inl ⟨rfl, fun h2 hsp => .glenm hc a1 a2 (by rw [hsp]; exact a3)⟩
  | ent hc a1 a2 a3 => exact .inl ⟨rfl, fun h2 hsp => .ent hc a1 a2 (by rw [hsp]; exact a3)⟩
  | gent hc a1 a2 a3 a4 => exact .inl ⟨rfl, fun h2 hsp => .gent hc a1 a2 (by rw [hsp]; exact a3) a4⟩
  | cpy hc => simp at hc
theorem D.of_wrM {e : Operand → PV} {h h' : HP} {v : PV} (d : D P e .wrM o h v h') : (h' = h ∧ ∀ h2, D P e .wrM o h2 v h2) ∨
    (∃ tk d, o.dst = some d ∧ tk % 1024 = d ∧ h.win tk = true ∧ h' = h.putS tk (.map fun _ => none) ∧ ∀ h2 : HP, h2.win tk = true → D P e .wrM o h2 v (h2.putS tk (.map fun _ => none))) ∨
    ∃ tk y m kk vv, Operand.tmp y ∈ o.op.operands ∧ tk % 1024 = y ∧ h.sp tk = some (.map m) ∧ m kk = none ∧ h' = h.setS tk (.map fun y => if y = kk then some vv else m y) ∧ ∀ (h2 : HP) (m2 : MF), h2.sp tk = some (.map m2) → m2 kk = none → D P e .wrM o h2 v (h2.setS tk (.map fun y => if y = kk then some vv else m2 y)) := by
  cases d with
  | move a1 => exact .inl ⟨rfl, fun _ => .move a1⟩
  | bin a1 a2 a3 a4 => exact .inl ⟨rfl, fun _ => .bin a1 a2 a3 a4⟩
  | eqn a1 a2 a3 a4 => exact .inl ⟨rfl, fun _ => .eqn a1 a2 a3 a4⟩
  | capl a1 a2 => exact .inl ⟨rfl, fun _ => .capl a1 a2⟩
  | callv a1 a2 a3 a4 a5 => exact .inl ⟨rfl, fun _ => .callv a1 a2 a3 a4 a5⟩
  | mkf a1 => exact .inl ⟨rfl, fun _ => .mkf a1⟩
  | pick a1 a2 => exact .inl ⟨rfl, fun _ => .pick a1 a2⟩
  | un a1 a2 a3 => exact .inl ⟨rfl, fun _ => .un a1 a2 a3⟩
  | conv a1 a2 a3 => exact .inl ⟨rfl, fun _ => .conv a1 a2 a3⟩
  | bi2 a1 a2 a3 a4 => exact .inl ⟨rfl, fun _ => .bi2 a1 a2 a3 a4⟩
  | bi1 a1 a2 a3 => exact .inl ⟨rfl, fun _ => .bi1 a1 a2 a3⟩
  | index a1 a2 a3 a4 => exact .inl ⟨rfl, fun _ => .index a1 a2 a3 a4⟩
  | slstr a1 a2 a3 a4 a5 a6 => exact .inl ⟨rfl, fun _ => .slstr a1 a2 a3 a4 a5 a6⟩
  | lenl a1 a2 => exact .inl ⟨rfl, fun _ => .lenl a1 a2⟩
  | lenr a1 a2 => exact .inl ⟨rfl, fun _ => .lenr a1 a2⟩
  | ixl a1 a2 a3 a4 a5 => exact .inl ⟨rfl, fun _ => .ixl a1 a2 a3 a4 a5⟩
  | ixr a1 a2 a3 a4 a5 => exact .inl ⟨rfl, fun _ => .ixr a1 a2 a3 a4 a5⟩
  | ixap a1 a2 a3 a4 a5 => exact .inl ⟨rfl, fun _ => .ixap a1 a2 a3 a4 a5⟩
  | ixal a1 a2 a3 a4 a5 => exact .inl ⟨rfl, fun _ => .ixal a1 a2 a3 a4 a5⟩
  | slp a1 a2 a3 a4 a5 a6 a7 => exact .inl ⟨rfl, fun _ => .slp a1 a2 a3 a4 a5 a6 a7⟩
  | ldl a1 a2 a3 => exact .inl ⟨rfl, fun _ => .ldl a1 a2 a3⟩
  | ldla a1 a2 a3 => exact .inl ⟨rfl, fun _ => .ldla a1 a2 a3⟩
  | ldm hc => simp at hc
  | ldma hc => simp at hc
  | fal a1 a2 => exact .inl ⟨rfl, fun _ => .fal a1 a2⟩
  | fam a1 a2 => exact .inl ⟨rfl, fun _ => .fam a1 a2⟩
  | fd a1 a2 a3 => exact .inl ⟨rfl, fun _ => .fd a1 a2 a3⟩
  | fda a1 a2 a3 => exact .inl ⟨rfl, fun _ => .fda a1 a2 a3⟩
  | ext a1 a2 a3 => exact .inl ⟨rfl, fun _ => .ext a1 a2 a3⟩
  | nck a1 a2 => exact .inl ⟨rfl, fun _ => .nck a1 a2⟩
  | boxl a1 a2 => exact .inl ⟨rfl, fun _ => .boxl a1 a2⟩
  | boxs a1 a2 => exact .inl ⟨rfl, fun _ => .boxs a1 a2⟩
  | sll a1 a2 a3 a4 a5 a6 a7 a8 => exact .inl ⟨rfl, fun _ => .sll a1 a2 a3 a4 a5 a6 a7 a8⟩
  | sll3 a1 a2 a3 a4 a5 a6 a7 a8 a9 => exact .inl ⟨rfl, fun _ => .sll3 a1 a2 a3 a4 a5 a6 a7 a8 a9⟩
  | slr3 a1 a2 a3 a4 a5 a6 a7 a8 => exact .inl ⟨rfl, fun _ => .slr3 a1 a2 a3 a4 a5 a6 a7 a8⟩
  | slr a1 a2 a3 a4 a5 a6 a7 => exact .inl ⟨rfl, fun _ => .slr a1 a2 a3 a4 a5 a6 a7⟩
  | ap0 hc => simp at hc
  | bld a1 a2 => exact .inl ⟨rfl, fun _ => .bld a1 a2⟩
  | bsl a1 a2 a3 => exact .inl ⟨rfl, fun _ => .bsl a1 a2 a3⟩
  | call a1 a2 a3 a4 => exact .inl ⟨rfl, fun _ => .call a1 a2 a3 a4⟩
  | callb hc => simp at hc
  | st hc => simp at hc
  | sta hc => simp at hc
  | alloA hc => simp at hc
  | mkmA hc a1 a2 a3 a4 => exact .inr (.inl ⟨_, _, a2, a3, a4, rfl, fun h2 hw => .mkmA rfl a1 a2 a3 hw⟩)
  | insA hc a1 a2 a3 a4 a5 a6 a7 => exact .inr (.inr ⟨_, _, _, _, _, by rw [a1]; simp [Op.operands], a3, a4, a7, rfl, fun h2 m2 hm hn => .insA rfl a1 a2 a3 hm a5 a6 hn⟩)
  | mk hc => simp at hc
  | alloS hc => simp at hc
  | callo hc => simp at hc
  | callob hc => simp at hc
  | callm hc => simp at hc
  | apr hc => simp at hc
  | apl hc => simp at hc
  | bslm hc => simp at hc
  | mlk a1 a2 a3 => exact .inl ⟨rfl, fun _ => .mlk a1 a2 a3⟩
  | glk a1 a2 a3 a4 => exact .inl ⟨rfl, fun _ => .glk a1 a2 a3 a4⟩
  | glen a1 a2 => exact .inl ⟨rfl, fun _ => .glen a1 a2⟩
  | lenm a1 a2 a3 a4 => exact .inl ⟨rfl, fun _ => .lenm a1 a2 a3 a4⟩
  | mlkm hc => simp [Cls.lkp] at hc
  | glkm hc => simp [Cls.lkp] at hc
  | glenm hc => simp [Cls.lkp] at hc
  | ent hc => simp [Cls.lkp] at hc
  | gent hc => simp [Cls.lkp] at hc
  | cpy hc => simp at hc
theorem D.of_wrQ {e : Operand → PV} {h h' : HP} {v : PV} (d : D P e .wrQ o h v h') : (h' = h ∧ ∀ h2, D P e .wrQ o h2 v h2) ∨ ∃ tk cs r, h.blk tk = some cs ∧ h' = h.set tk r ∧ ∀ h2 : HP, h2.blk tk = some cs → D P e .wrQ o h2 v (h2.set tk r) := by
  cases d with
  | move a1 => exact .inl ⟨rfl, fun _ => .move a1⟩
  | bin a1 a2 a3 a4 => exact .inl ⟨rfl, fun _ => .bin a1 a2 a3 a4⟩
  | eqn a1 a2 a3 a4 => exact .inl ⟨rfl, fun _ => .eqn a1 a2 a3 a4⟩
  | capl a1 a2 => exact .inl ⟨rfl, fun _ => .capl a1 a2⟩
  | callv a1 a2 a3 a4 a5 => exact .inl ⟨rfl, fun _ => .callv a1 a2 a3 a4 a5⟩
  | mkf a1 => exact .inl ⟨rfl, fun _ => .mkf a1⟩
  | pick a1 a2 => exact .inl ⟨rfl, fun _ => .pick a1 a2⟩
  | un a1 a2 a3 => exact .inl ⟨rfl, fun _ => .un a1 a2 a3⟩
  | conv a1 a2 a3 => exact .inl ⟨rfl, fun _ => .conv a1 a2 a3⟩
  | bi2 a1 a2 a3 a4 => exact .inl ⟨rfl, fun _ => .bi2 a1 a2 a3 a4⟩
  | bi1 a1 a2 a3 => exact .inl ⟨rfl, fun _ => .bi1 a1 a2 a3⟩
  | index a1 a2 a3 a4 => exact .inl ⟨rfl, fun _ => .index a1 a2 a3 a4⟩
  | slstr a1 a2 a3 a4 a5 a6 => exact .inl ⟨rfl, fun _ => .slstr a1 a2 a3 a4 a5 a6⟩
  | lenl a1 a2 => exact .inl ⟨rfl, fun _ => .lenl a1 a2⟩
  | lenr a1 a2 => exact .inl ⟨rfl, fun _ => .lenr a1 a2⟩
  | ixl a1 a2 a3 a4 a5 => exact .inl ⟨rfl, fun _ => .ixl a1 a2 a3 a4 a5⟩
  | ixr a1 a2 a3 a4 a5 => exact .inl ⟨rfl, fun _ => .ixr a1 a2 a3 a4 a5⟩
  | ixap a1 a2 a3 a4 a5 => exact .inl ⟨rfl, fun _ => .ixap a1 a2 a3 a4 a5⟩
  | ixal a1 a2 a3 a4 a5 => exact .inl ⟨rfl, fun _ => .ixal a1 a2 a3 a4 a5⟩
  | slp a1 a2 a3 a4 a5 a6 a7 => exact .inl ⟨rfl, fun _ => .slp a1 a2 a3 a4 a5 a6 a7⟩
  | ldl a1 a2 a3 => exact .inl ⟨rfl, fun _ => .ldl a1 a2 a3⟩
  | ldla a1 a2 a3 => exact .inl ⟨rfl, fun _ => .ldla a1 a2 a3⟩
  | ldm hc => simp at hc
  | ldma hc => simp at hc
  | fal a1 a2 => exact .inl ⟨rfl, fun _ => .fal a1 a2⟩
  | fam a1 a2 => exact .inl ⟨rfl, fun _ => .fam a1 a2⟩
  | fd a1 a2 a3 => exact .inl ⟨rfl, fun _ => .fd a1 a2 a3⟩
  | fda a1 a2 a3 => exact .inl ⟨rfl, fun _ => .fda a1 a2 a3⟩
  | ext a1 a2 a3 => exact .inl ⟨rfl, fun _ => .ext a1 a2 a3⟩
  | nck a1 a2 => exact .inl ⟨rfl, fun _ => .nck a1 a2⟩
  | boxl a1 a2 => exact .inl ⟨rfl, fun _ => .boxl a1 a2⟩
  | boxs a1 a2 => exact .inl ⟨rfl, fun _ => .boxs a1 a2⟩
  | sll a1 a2 a3 a4 a5 a6 a7 a8 => exact .inl ⟨rfl, fun _ => .sll a1 a2 a3 a4 a5 a6 a7 a8⟩
  | sll3 a1 a2 a3 a4 a5 a6 a7 a8 a9 => exact .inl ⟨rfl, fun _ => .sll3 a1 a2 a3 a4 a5 a6 a7 a8 a9⟩
  | slr3 a1 a2 a3 a4 a5 a6 a7 a8 => exact .inl ⟨rfl, fun _ => .slr3 a1 a2 a3 a4 a5 a6 a7 a8⟩
  | slr a1 a2 a3 a4 a5 a6 a7 => exact .inl ⟨rfl, fun _ => .slr a1 a2 a3 a4 a5 a6 a7⟩
  | ap0 hc => simp at hc
  | bld a1 a2 => exact .inl ⟨rfl, fun _ => .bld a1 a2⟩
  | bsl a1 a2 a3 => exact .inl ⟨rfl, fun _ => .bsl a1 a2 a3⟩
  | call a1 a2 a3 a4 => exact .inl ⟨rfl, fun _ => .call a1 a2 a3 a4⟩
  | callb hc => simp at hc
  | st hc a1 a2 a3 a4 a5 => exact .inr ⟨_, _, _, a3, rfl, fun h2 hb => .st hc a1 a2 hb a4 a5⟩
  | sta hc a1 a2 a3 a4 a5 a6 a7 => exact .inr ⟨_, _, _, a3, rfl, fun h2 hb => .sta hc a1 a2 hb a4 a5 a6 a7⟩
  | alloA hc => simp at hc
  | mkmA hc => simp at hc
  | insA hc => simp at hc
  | mk hc => simp at hc
  | alloS hc => simp at hc
  | callo hc => simp at hc
  | callob hc => simp at hc
  | callm hc => simp at hc
  | apr hc => simp at hc
  | apl hc => simp at hc
  | bslm hc => simp at hc
  | mlk a1 a2 a3 => exact .inl ⟨rfl, fun _ => .mlk a1 a2 a3⟩
  | glk a1 a2 a3 a4 => exact .inl ⟨rfl, fun _ => .glk a1 a2 a3 a4⟩
  | glen a1 a2 => exact .inl ⟨rfl, fun _ => .glen a1 a2⟩
  | lenm a1 a2 a3 a4 => exact .inl ⟨rfl, fun _ => .lenm a1 a2 a3 a4⟩
  | mlkm hc => simp [Cls.lkp] at hc
  | glkm hc => simp [Cls.lkp] at hc
  | glenm hc => simp [Cls.lkp] at hc
  | ent hc => simp [Cls.lkp] at hc
  | gent hc => simp [Cls.lkp] at hc
  | cpy hc => simp at hc
theorem evA_put {f : Nat → PV} {d : Option Tmp} {v : PV} {x : Operand} (h : ∀ t, x = .tmp t → d ≠ some t) : evA (putA f d v) x = evA f x := by
  cases d with
  | none => rfl
  | some d =>
    cases x with
    | tmp t =>
      have : t ≠ d := fun e => h t rfl (by rw [e])
      simp [evA, putA, upd, this]
    | _ => rfl
theorem put_at {f : Nat → PV} {d : Option Tmp} {v : PV} {t : Nat} (h : d ≠ some t) : putA f d v t = f t := by
  cases d with
  | none => rfl
  | some d =>
    have : t ≠ d := fun e => h (by rw [e])
    simp [putA, upd, this]
theorem putA_comm {f : Nat → PV} {d d' : Option Tmp} {v v' : PV} (h : ∀ x, d = some x → d' ≠ some x) : putA (putA f d v) d' v' = putA (putA f d' v') d v := by
  funext t
  by_cases c : d = some t
  · subst c
    have := h t rfl
    rw [put_at this]
    simp [putA, upd]
  · rw [put_at c]
    by_cases c' : d' = some t
    · subst c'; simp [putA, upd]
    · rw [put_at c', put_at c', put_at c]
theorem Res.congr {tm : Nat → PV} {h : HP} {f : Nat → PV} {d : Option Tmp} {u v : PV} {h' : HP} (hn : ∀ t, d = some t → t ∉ o.looksAt ops) : Res P cl ops o ⟨putA f d u, h⟩ v h' ↔ Res P cl ops o ⟨f, h⟩ v h' := by
  have e1 : ∀ x ∈ o.op.operands, evA (putA f d u) x = evA f x := fun x hx => evA_put (fun t ht hd => by
    refine hn t hd ?_
    unfold Oper.looksAt
    refine List.mem_append.2 (.inl (List.mem_filterMap.2 ⟨x, by simpa using hx, by rw [ht]⟩)))
  unfold Res
  cases hg : o.guard with
  | none => exact ⟨fun ⟨e, h1, h2⟩ => ⟨e, fun x hx => (h1 x hx).trans (e1 x hx), h2⟩, fun ⟨e, h1, h2⟩ => ⟨e, fun x hx => (h1 x hx).trans (e1 x hx).symm, h2⟩⟩
  | some q =>
    obtain ⟨j, want⟩ := q
    have e2 : ∀ t, (ops[j]?).bind (·.dst) = some t → putA f d u t = f t := fun t ht => put_at (fun hd => by
      refine hn t hd ?_
      unfold Oper.looksAt
      refine List.mem_append.2 (.inr ?_)
      simp [hg, ht])
    constructor
    · rintro ⟨t, b, h1, h2, h3, h4⟩
      refine ⟨t, b, h1, (e2 t h1).symm.trans h2, fun hb => ?_, h4⟩
      obtain ⟨e, g1, g2⟩ := h3 hb
      exact ⟨e, fun x hx => (g1 x hx).trans (e1 x hx), g2⟩
    · rintro ⟨t, b, h1, h2, h3, h4⟩
      refine ⟨t, b, h1, (e2 t h1).trans h2, fun hb => ?_, h4⟩
      obtain ⟨e, g1, g2⟩ := h3 hb
      exact ⟨e, fun x hx => (g1 x hx).trans (e1 x hx).symm, g2⟩
theorem Res.of_pure {v : PV} {h' : HP} (hc : cl o = .pure) (h : Res P cl ops o s v h') : h' = s.hp ∧ ∀ h2, Res P cl ops o ⟨s.tmps, h2⟩ v h2 := by
  unfold Res at *
  cases hg : o.guard with
  | none =>
    simp only [hg] at h ⊢
    obtain ⟨e, h1, h2⟩ := h
    rw [hc] at h2
    exact ⟨h2.of_pure.1, fun h2' => ⟨e, h1, by rw [hc]; exact h2.of_pure.2 h2'⟩⟩
  | some q =>
    obtain ⟨j, want⟩ := q
    simp only [hg] at h ⊢
    obtain ⟨t, b, g1, g2, g3, g4⟩ := h
    by_cases hb : b = .bool want
    · obtain ⟨e, k1, k2⟩ := g3 hb
      rw [hc] at k2
      exact ⟨k2.of_pure.1, fun h2' => ⟨t, b, g1, g2, fun _ => ⟨e, k1, by rw [hc]; exact k2.of_pure.2 h2'⟩, fun hne => absurd hb hne⟩⟩
    · obtain ⟨rfl, k2⟩ := g4 hb
      exact ⟨k2, fun h2' => ⟨t, b, g1, g2, fun h => absurd h hb, fun _ => ⟨rfl, trivial⟩⟩⟩
theorem Res.cases {v : PV} {h' : HP} (h : Res P cl ops o s v h') : ((∃ e, D P e (cl o) o s.hp v h' ∧ ∀ h2 h3, D P e (cl o) o h2 v h3 → Res P cl ops o ⟨s.tmps, h2⟩ v h3) ∨ (h' = s.hp ∧ ∀ h2, Res P cl ops o ⟨s.tmps, h2⟩ v h2)) := by
  unfold Res at *
  cases hg : o.guard with
  | none =>
    simp only [hg] at h ⊢
    obtain ⟨e, h1, h2⟩ := h
    exact .inl ⟨e, h2, fun h2' h3 hd => ⟨e, h1, hd⟩⟩
  | some q =>
    obtain ⟨j, want⟩ := q
    simp only [hg] at h ⊢
    obtain ⟨t, b, g1, g2, g3, g4⟩ := h
    by_cases hb : b = .bool want
    · obtain ⟨e, k1, k2⟩ := g3 hb
      exact .inl ⟨e, k2, fun h2' h3 hd => ⟨t, b, g1, g2, fun _ => ⟨e, k1, hd⟩, fun hne => absurd hb hne⟩⟩
    · obtain ⟨rfl, k2⟩ := g4 hb
      exact .inr ⟨k2, fun h2' => ⟨t, b, g1, g2, fun h => absurd h hb, fun _ => ⟨rfl, trivial⟩⟩⟩
theorem Res.of_rd {v : PV} {h' : HP} (hc : cl o = .read ∨ cl o = .readB ∨ cl o = .readL) (h : Res P cl ops o s v h') : h' = s.hp := by
  rcases h.cases with ⟨e, h1, _⟩ | ⟨h1, _⟩
  · rcases hc with hc | hc | hc
    · rw [hc] at h1; exact h1.of_read
    · rw [hc] at h1; exact h1.of_readB.1
    · rw [hc] at h1; exact h1.of_readL.1
  · exact h1
theorem Res.of_rL {v : PV} {h' : HP} (hc : cl o = .readL) (h : Res P cl ops o s v h') : ∀ h2 : HP, (∀ t cs, t % 2 = 0 → s.hp.blk t = some cs → h2.blk t = some cs) → Res P cl ops o ⟨s.tmps, h2⟩ v h2 := by
  intro h2 hag
  rcases h.cases with ⟨e, h1, h3⟩ | ⟨h1, h3⟩
  · refine h3 _ _ ?_
    rw [hc] at h1 ⊢
    exact h1.of_readL.2 h2 hag
  · exact h3 h2
theorem Res.of_rB {v : PV} {h' : HP} (hc : cl o = .readB) (h : Res P cl ops o s v h') : ∀ h2 : HP, (∀ t, t % 2 = 1 → h2.blk t = s.hp.blk t) → h2.sp = s.hp.sp → Res P cl ops o ⟨s.tmps, h2⟩ v h2 := by
  intro h2 hag hsp
  rcases h.cases with ⟨e, h1, h3⟩ | ⟨h1, h3⟩
  · refine h3 _ _ ?_
    rw [hc] at h1 ⊢
    exact h1.of_readB.2 h2 hag hsp
  · exact h3 h2
theorem Res.of_wS {v : PV} {h' : HP} (hc : cl o = .wrS) (h : Res P cl ops o s v h') : (∀ t, t % 2 = 1 → h'.blk t = s.hp.blk t) ∧ h'.sp = s.hp.sp := by
  rcases h.cases with ⟨e, h1, h3⟩ | ⟨h1, h3⟩
  · rw [hc] at h1; exact h1.of_wrS
  · rw [h1]; exact ⟨fun _ _ => rfl, rfl⟩
theorem Res.of_wO {v : PV} {h' : HP} (hc : cl o = .wrO) (h : Res P cl ops o s v h') : (∀ t, t % 2 = 0 → h'.blk t = s.hp.blk t) ∧ h'.sp = s.hp.sp := by
  rcases h.cases with ⟨e, h1, h3⟩ | ⟨h1, h3⟩
  · rw [hc] at h1; exact h1.of_wrO
  · rw [h1]; exact ⟨fun _ _ => rfl, rfl⟩
theorem Res.of_wA {v : PV} {h' : HP} (hc : cl o = .wrA) (h : Res P cl ops o s v h') : (h' = s.hp ∧ ∀ h2 : HP, h2.sp = s.hp.sp → Res P cl ops o ⟨s.tmps, h2⟩ v h2) ∨ ∃ tk cs, s.hp.win tk = true ∧ h' = s.hp.put tk cs ∧ ∀ h2 : HP, h2.win tk = true → Res P cl ops o ⟨s.tmps, h2⟩ v (h2.put tk cs) := by
  rcases h.cases with ⟨e, h1, h3⟩ | ⟨h1, h3⟩
  · rw [hc] at h1
    rcases h1.of_wrA with ⟨q1, q2⟩ | ⟨tk, cs, q1, q2, q3, q4⟩
    · exact .inl ⟨q1, fun h2 hs => h3 _ _ (by rw [hc]; exact q2 h2 hs)⟩
    · exact .inr ⟨tk, cs, q2, q3, fun h2 hw => h3 _ _ (by rw [hc]; exact q4 h2 hw)⟩
  · exact .inl ⟨h1, fun h2 _ => h3 h2⟩
theorem Res.of_wM {v : PV} {h' : HP} (hc : cl o = .wrM) (h : Res P cl ops o s v h') : (h' = s.hp ∧ ∀ h2 : HP, Res P cl ops o ⟨s.tmps, h2⟩ v h2) ∨
    (∃ tk d, o.dst = some d ∧ tk % 1024 = d ∧ s.hp.win tk = true ∧ h' = s.hp.putS tk (.map fun _ => none) ∧ ∀ h2 : HP, h2.win tk = true → Res P cl ops o ⟨s.tmps, h2⟩ v (h2.putS tk (.map fun _ => none))) ∨
    ∃ tk y m kk vv, y ∈ o.looksAt ops ∧ tk % 1024 = y ∧ s.hp.sp tk = some (.map m) ∧ m kk = none ∧ h' = s.hp.setS tk (.map fun y => if y = kk then some vv else m y) ∧ ∀ (h2 : HP) (m2 : MF), h2.sp tk = some (.map m2) → m2 kk = none → Res P cl ops o ⟨s.tmps, h2⟩ v (h2.setS tk (.map fun y => if y = kk then some vv else m2 y)) := by
  rcases h.cases with ⟨e, h1, h3⟩ | ⟨h1, h3⟩
  · rw [hc] at h1
    rcases h1.of_wrM with ⟨q1, q2⟩ | ⟨tk, d, q1, q2, q3, q4, q5⟩ | ⟨tk, y, m, kk, vv, q1, q2, q3, q4, q5, q6⟩
    · exact .inl ⟨q1, fun h2 => h3 _ _ (by rw [hc]; exact q2 h2)⟩
    · exact .inr (.inl ⟨tk, d, q1, q2, q3, q4, fun h2 hw => h3 _ _ (by rw [hc]; exact q5 h2 hw)⟩)
    · refine .inr (.inr ⟨tk, y, m, kk, vv, ?_, q2, q3, q4, q5, fun h2 m2 hm hn => h3 _ _ (by rw [hc]; exact q6 h2 m2 hm hn)⟩)
      unfold Oper.looksAt
      exact List.mem_append.2 (.inl (List.mem_filterMap.2 ⟨.tmp y, by simpa using q1, rfl⟩))
  · exact .inl ⟨h1, h3⟩
theorem Res.of_wQ {v : PV} {h' : HP} (hc : cl o = .wrQ) (h : Res P cl ops o s v h') : (h' = s.hp ∧ ∀ h2 : HP, Res P cl ops o ⟨s.tmps, h2⟩ v h2) ∨ ∃ tk cs r, s.hp.blk tk = some cs ∧ h' = s.hp.set tk r ∧ ∀ h2 : HP, h2.blk tk = some cs → Res P cl ops o ⟨s.tmps, h2⟩ v (h2.set tk r) := by
  rcases h.cases with ⟨e, h1, h3⟩ | ⟨h1, h3⟩
  · rw [hc] at h1
    rcases h1.of_wrQ with ⟨q1, q2⟩ | ⟨tk, cs, r, q1, q2, q3⟩
    · exact .inl ⟨q1, fun h2 => h3 _ _ (by rw [hc]; exact q2 h2)⟩
    · exact .inr ⟨tk, cs, r, q1, q2, fun h2 hb => h3 _ _ (by rw [hc]; exact q3 h2 hb)⟩
  · exact .inl ⟨h1, h3⟩
theorem Res.wM_blk {v : PV} {h' : HP} (hc : cl o = .wrM) (h : Res P cl ops o s v h') : h'.blk = s.hp.blk := by
  rcases h.of_wM hc with ⟨e, _⟩ | ⟨_, _, _, _, _, e, _⟩ | ⟨_, _, _, _, _, _, _, _, _, e, _⟩ <;> rw [e] <;> rfl
def HP.Wn (h : HP) : Prop := ∀ t, h.win t = true → h.blk t = none
theorem AStep.wn {oj : Oper} {s s1 : AS} (hc : clsOk (cl oj) .wrA = true) (hj : AStep P n cl ops oj s s1) (hw : s.hp.Wn) : s1.hp.Wn := by
  obtain ⟨dj, vj, hj', rj, rfl⟩ := hj
  cases hcj : cl oj <;> simp only [hcj, clsOk, Bool.false_eq_true] at hc
  · rw [show (AS.mk (putA s.tmps oj.dst vj) hj').hp = s.hp from (rj.of_pure hcj).1]; exact hw
  · rcases rj.of_wA hcj with ⟨e1, _⟩ | ⟨t2, c2, w2, e2, _⟩
    · rw [show (AS.mk (putA s.tmps oj.dst vj) hj').hp = s.hp from e1]; exact hw
    · rw [show (AS.mk (putA s.tmps oj.dst vj) hj').hp = s.hp.put t2 c2 from e2]
      intro t ht
      by_cases e : t = t2
      · subst e
        have : (s.hp.put t c2).win t = false := by simp [HP.put]
        rw [this] at ht; cases ht
      · rw [HP.put_other _ _ e]
        refine hw t ?_
        have h2 : (s.hp.put t2 c2).win t = s.hp.win t := by
          show (bif Nat.beq t t2 then false else s.hp.win t) = _
          cases hb : Nat.beq t t2 with
          | false => rfl
          | true => exact absurd (Nat.eq_of_beq_eq_true hb) e
        rwa [h2] at ht
  · rw [show (AS.mk (putA s.tmps oj.dst vj) hj').hp = s.hp from rj.of_rd (.inr (.inr hcj))]; exact hw
theorem Res.swapL {oj oi : Oper} {s : AS} {vj vi : PV} {hj' hi' : HP} (hcj' : cl oj = .readL) (hci' : cl oi = .wrM) (rj : Res P cl ops oj s vj hj') (ri2 : Res P cl ops oi ⟨s.tmps, hj'⟩ vi hi') : ∃ hm, Res P cl ops oi s vi hm ∧ Res P cl ops oj ⟨s.tmps, hm⟩ vj hi' := by
  have e1 := rj.of_rd (.inr (.inr hcj'))
  subst e1
  exact ⟨hi', ri2, rj.of_rL hcj' hi' (fun t cs _ hb => by rw [ri2.wM_blk hci']; exact hb)⟩
theorem Res.swapM {oj oi : Oper} {s : AS} {vj vi : PV} {hj' hi' : HP} (hcj' : cl oj = .wrM) (hci' : cl oi = .wrM) (p1 : ∀ d, oj.dst = some d → d ∉ oi.looksAt ops) (p2 : ∀ d, oj.dst = some d → oi.dst ≠ some d) (p3 : ∀ d, oi.dst = some d → d ∉ oj.looksAt ops)
    (rj : Res P cl ops oj s vj hj') (ri2 : Res P cl ops oi ⟨s.tmps, hj'⟩ vi hi') : ∃ hm, Res P cl ops oi s vi hm ∧ Res P cl ops oj ⟨s.tmps, hm⟩ vj hi' := by
  rcases rj.of_wM hcj' with ⟨e1, r1⟩ | ⟨t1, d1, f1, m1, w1, e1, r1⟩ | ⟨t1, y1, m1, k1, v1, l1, y1', s1', n1, e1, r1⟩
  · subst e1
    exact ⟨hi', ri2, r1 hi'⟩
  · rcases ri2.of_wM hci' with ⟨e2, r2⟩ | ⟨t2, d2, f2, m2, w2, e2, r2⟩ | ⟨t2, y2, m2, k2, v2, l2, y2', s2', n2, e2, r2⟩
    · simp only at e2
      refine ⟨s.hp, r2 s.hp, ?_⟩
      rw [e2]; exact rj
    · have hne : t1 ≠ t2 := fun e => p2 d1 f1 (by rw [f2, ← m1, ← m2, e])
      subst e1
      simp only at w2
      have hw2 := (HP.putS_win w2).2
      refine ⟨s.hp.putS t2 _, r2 s.hp hw2, ?_⟩
      rw [e2]
      simp only
      rw [HP.putS_comm hne]
      exact r1 (s.hp.putS t2 _) (HP.putS_keep hne w1)
    · have hne : t1 ≠ t2 := fun e => p1 d1 f1 (by rw [← m1, e, y2']; exact l2)
      subst e1
      simp only at s2'
      rw [HP.putS_other _ _ (fun e => hne e.symm)] at s2'
      refine ⟨s.hp.setS t2 _, r2 s.hp m2 s2' n2, ?_⟩
      rw [e2]
      simp only
      rw [HP.putS_setS hne]
      exact r1 (s.hp.setS t2 _) w1
  · rcases ri2.of_wM hci' with ⟨e2, r2⟩ | ⟨t2, d2, f2, m2, w2, e2, r2⟩ | ⟨t2, y2, m2, k2, v2, l2, y2', s2', n2, e2, r2⟩
    · simp only at e2
      refine ⟨s.hp, r2 s.hp, ?_⟩
      rw [e2]; exact rj
    · have hne : t2 ≠ t1 := fun e => p3 d2 f2 (by rw [← m2, e, y1']; exact l1)
      subst e1
      simp only at w2
      refine ⟨s.hp.putS t2 _, r2 s.hp w2, ?_⟩
      rw [e2]
      simp only
      rw [← HP.putS_setS hne]
      exact r1 (s.hp.putS t2 _) m1 ((HP.putS_other _ _ (fun e => hne e.symm)).trans s1') n1
    · subst e1
      simp only at s2'
      by_cases hne : t1 = t2
      · subst hne
        rw [HP.setS_same] at s2'
        cases s2'
        have n2' : (if k2 = k1 then some v1 else m1 k2) = none := n2
        have hk : k2 ≠ k1 := by
          intro e
          rw [e, if_pos rfl] at n2'; cases n2'
        rw [if_neg hk] at n2'
        refine ⟨s.hp.setS t1 _, r2 s.hp m1 s1' n2', ?_⟩
        have := r1 (s.hp.setS t1 (.map fun y => if y = k2 then some v2 else m1 y)) _ (HP.setS_same _ _ _) (show (if k1 = k2 then some v2 else m1 k1) = none by rw [if_neg (fun e => hk e.symm)]; exact n1)
        rw [HP.setS_setS] at this
        rw [e2]
        simp only
        rw [HP.setS_setS, show (fun y => if y = k2 then some v2 else if y = k1 then some v1 else m1 y) = fun y => if y = k1 then some v1 else if y = k2 then some v2 else m1 y from funext fun y => by
          by_cases g1 : y = k2
          · subst g1; rw [if_pos rfl, if_neg hk, if_pos rfl]
          · rw [if_neg g1, if_neg g1]]
        exact this
      · rw [HP.setS_other _ _ (fun e => hne e.symm)] at s2'
        refine ⟨s.hp.setS t2 _, r2 s.hp m2 s2' n2, ?_⟩
        rw [e2]
        simp only
        rw [HP.setS_comm hne]
        exact r1 (s.hp.setS t2 _) m1 ((HP.setS_other _ _ hne).trans s1') n1
theorem Res.swapQ {oj oi : Oper} {s : AS} {vj vi : PV} {hj' hi' : HP} (hcj' : cl oj = .wrM) (hci' : cl oi = .wrQ) (rj : Res P cl ops oj s vj hj') (ri2 : Res P cl ops oi ⟨s.tmps, hj'⟩ vi hi') : ∃ hm, Res P cl ops oi s vi hm ∧ Res P cl ops oj ⟨s.tmps, hm⟩ vj hi' := by
  rcases ri2.of_wQ hci' with ⟨e2, r2⟩ | ⟨tk, cs, r, b2, e2, r2⟩
  · simp only at e2
    refine ⟨s.hp, r2 s.hp, ?_⟩
    rw [e2]; exact rj
  · have hb := rj.wM_blk hcj'
    simp only at b2
    rw [hb] at b2
    refine ⟨s.hp.set tk r, r2 s.hp b2, ?_⟩
    rw [e2]
    simp only
    rcases rj.of_wM hcj' with ⟨e1, r1⟩ | ⟨t1, d1, f1, m1, w1, e1, r1⟩ | ⟨t1, y1, m1, k1, v1, l1, y1', s1', n1, e1, r1⟩
    · rw [e1]; exact r1 _
    · rw [e1]; exact r1 (s.hp.set tk r) w1
    · rw [e1]; exact r1 (s.hp.set tk r) m1 s1' n1
theorem AStep.swap {oj oi : Oper} {s s1 s2 : AS} (hwn : cl oi = .wrA → s.hp.Wn) (hap : oj.apart ops oi = true) (hc : clsOk (cl oj) (cl oi) = true) (hj : AStep P n cl ops oj s s1) (hi : AStep P n cl ops oi s1 s2) :
    ∃ s1', AStep P n cl ops oi s s1' ∧ AStep P n cl ops oj s1' s2 := by
  obtain ⟨dj, vj, hj', rj, rfl⟩ := hj
  obtain ⟨di, vi, hi', ri, rfl⟩ := hi
  obtain ⟨p1, p2, p3⟩ := Oper.apart_spec hap
  have ri2 := (Res.congr (tm := s.tmps) p1).1 ri
  have key : ∃ hm, Res P cl ops oi s vi hm ∧ Res P cl ops oj ⟨s.tmps, hm⟩ vj hi' := by
    by_cases hcj : cl oj = .pure
    · obtain ⟨e1, e2⟩ := rj.of_pure hcj
      subst e1
      exact ⟨hi', ri2, e2 hi'⟩
    by_cases hci : cl oi = .pure
    · obtain ⟨e3, e4⟩ := ri2.of_pure hci
      simp only at e3
      subst e3
      exact ⟨s.hp, e4 s.hp, rj⟩
    have rr : (cl oj = .read ∨ cl oj = .readB ∨ cl oj = .readL) → (cl oi = .read ∨ cl oi = .readB ∨ cl oi = .readL) → ∃ hm, Res P cl ops oi s vi hm ∧ Res P cl ops oj ⟨s.tmps, hm⟩ vj hi' := fun q1 q2 => by
      have e1 := rj.of_rd q1
      subst e1
      have e3 := ri2.of_rd q2
      subst e3
      exact ⟨_, ri2, rj⟩
    cases hcj' : cl oj <;> cases hci' : cl oi <;> simp only [hcj', hci', clsOk, Bool.false_eq_true] at hc
    all_goals first
      | exact absurd hcj' hcj
      | exact absurd hci' hci
      | (refine rr ?_ ?_ <;> first | exact .inl hcj' | exact .inr (.inl hcj') | exact .inr (.inr hcj') | exact .inl hci' | exact .inr (.inl hci') | exact .inr (.inr hci'))
      | (-- readL, wrO
         have e1 := rj.of_rd (.inr (.inr hcj'))
         subst e1
         obtain ⟨q1, q2⟩ := ri2.of_wO hci'
         exact ⟨hi', ri2, rj.of_rL hcj' hi' (fun t cs ht hb => (q1 t ht).trans hb)⟩)
      | (-- readL, wrA
         have e1 := rj.of_rd (.inr (.inr hcj'))
         subst e1
         rcases ri2.of_wA hci' with ⟨e2, _⟩ | ⟨t2, c2, w2, e2, _⟩
         · exact ⟨hi', ri2, rj.of_rL hcj' hi' (by rw [e2]; exact fun _ _ _ h => h)⟩
         · refine ⟨hi', ri2, rj.of_rL hcj' hi' (fun t cs _ hb => ?_)⟩
           rw [e2]
           have hne : t ≠ t2 := fun e => by
             have := hwn hci' t2 w2
             rw [e, this] at hb; cases hb
           exact (HP.put_other _ _ hne).trans hb)
      | (-- wrA, wrA
         rcases rj.of_wA hcj' with ⟨e1, r1⟩ | ⟨t1, c1, w1, e1, r1⟩
         · subst e1
           rcases ri2.of_wA hci' with ⟨e2, _⟩ | ⟨t2, c2, w2, e2, _⟩
           · simp only at e2
             exact ⟨hi', ri2, r1 hi' (by rw [e2])⟩
           · exact ⟨hi', ri2, r1 hi' (by rw [e2]; rfl)⟩
         · subst e1
           rcases ri2.of_wA hci' with ⟨e2, r2⟩ | ⟨t2, c2, w2, e2, r2⟩
           · simp only at e2
             subst e2
             exact ⟨s.hp, r2 s.hp rfl, rj⟩
           · simp only at e2 w2 r2
             obtain ⟨n1, n2⟩ := HP.put_win w2
             refine ⟨s.hp.put t2 c2, r2 s.hp n2, ?_⟩
             have := r1 (s.hp.put t2 c2) (HP.put_keep (fun e => n1 e.symm) w1)
             rw [HP.put_comm n1] at this
             rw [e2]
             exact this)
      | exact Res.swapL hcj' hci' rj ri2
      | exact Res.swapM hcj' hci' p1 p2 p3 rj ri2
      | exact Res.swapQ hcj' hci' rj ri2
      | (-- readB, wrS
         have e1 := rj.of_rd (.inr (.inl hcj'))
         subst e1
         exact ⟨hi', ri2, rj.of_rB hcj' hi' (ri2.of_wS hci').1 (ri2.of_wS hci').2⟩)
      | (-- wrS, readB
         have e3 := ri2.of_rd (.inr (.inl hci'))
         simp only at e3
         subst e3
         exact ⟨s.hp, ri2.of_rB hci' s.hp (fun t ht => ((rj.of_wS hcj').1 t ht).symm) (rj.of_wS hcj').2.symm, rj⟩)
  obtain ⟨hm, k1, k2⟩ := key
  exact ⟨⟨putA s.tmps oi.dst vi, hm⟩, ⟨di, vi, hm, k1, rfl⟩, dj, vj, hi', (Res.congr (tm := s.tmps) p3).2 k2, by simp only; rw [putA_comm p2]⟩
end Go.Proofs.YtkmkcbkfakoomaaDoor
