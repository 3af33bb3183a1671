/- Facts and contracts that the claim uses. No condition of its own. -/
import Derived.Test.YtkmkcbkfakoomaaDoorGRingTextsAT
set_option linter.unusedVariables false
set_option linter.unusedSimpArgs false
namespace Go.Proofs.YtkmkcbkfakoomaaDoor
open Go.RowKit
def OpE (P : Program) (o : Oper) (s : AS) (K : PV → HP → Prop) : Prop :=
  ∀ (w0 : World) (Z0 : Nat → Prop) (ρ : Pl) (w : World) (a : Act) (Kw : Act → World → Prop) (Q : Exit → Act → World → Prop), HRel w0 Z0 ρ s.hp w → (∀ x, V ρ (Zof Z0 ρ s.hp) w (evA s.tmps x) (a.eval x)) →
    (∀ v h' u w' ρ', K v h' → HRel w0 Z0 ρ' h' w' → V ρ' (Zof Z0 ρ' h') w' v u → (∀ pv x, V ρ (Zof Z0 ρ s.hp) w pv x → V ρ' (Zof Z0 ρ' h') w' pv x) → Kw (a.put o.dst u) w') → o.wp P a w Kw Q
def guardOk (ops : Array Oper) (o : Oper) (s : AS) : Prop := o.guard = none ∨ ∃ j want t, o.guard = some (j, want) ∧ (ops[j]?).bind (·.dst) = some t ∧ s.tmps t = .sc (.bool want)
theorem OpE.call {P : Program} {o : Oper} {s : AS} {K : PV → HP → Prop} {f : FuncId} {xs : Array Operand} {ats : Array TypeId} (ho : o.op = .call ⟨.value (.func f), xs, ats⟩) (hs : SChE P f (xs.toList.map (evA s.tmps)) s.hp K) : OpE P o s K := by
  intro w0 Z0 ρ w a Kw Q H he hK
  obtain ⟨hl, hv⟩ := map_args (ρ := ρ) (w := w) (rfl : xs.toList.map (evA s.tmps) = _) a.eval (Zof Z0 ρ s.hp) (fun x _ => he x)
  unfold Oper.wp
  rw [run_call ho hs.1]
  refine (hs.2 w0 Z0 ρ w _ H (by rw [Array.size_map]; exact hl) hv).mono ?_
  rintro _ w' ⟨u, ρ', r, h', rfl, hQ', H', hv', up⟩
  exact hK r h' u w' ρ' hQ' H' hv' up
def AD (P : Program) (T : TypeId → TI) (M : Hn) (cl : Oper → Cls) (ops : Array Oper) : List Oper → AS → (AS → Prop) → Prop
  | [], s, K => K s
  | o :: l, s, K => (∃ s', AX P T M cl ops [o] s (· = s') ∧ AD P T M cl ops l s' K) ∨ (cl = (fun _ => Cls.wr) ∧ guardOk ops o s ∧ (∀ x, o.op ≠ .defer x) ∧ (TOk P T → OpE P o s (fun v h' => AD P T M cl ops l ⟨putA s.tmps o.dst v, h'⟩ K)))
theorem AD_sound {P : Program} {T : TypeId → TI} {M : Hn} {cl : Oper → Cls} {ops : Array Oper} {n : Nat} (hT : TOk P T) (hne : cl ≠ fun _ => Cls.wr) {K : AS → Prop} : ∀ (l : List Oper) (s : AS), dstOk n l = true → AD P T M cl ops l s K → AR P n cl ops l s K
  | [], s, _, h => h
  | o :: l, s, hd, .inr ⟨h1, _⟩ => absurd h1 hne
  | o :: l, s, hd, .inl ⟨s', h1, h2⟩ => by
    simp only [dstOk, List.all_cons, Bool.and_eq_true] at hd
    obtain ⟨s2, k1, k2⟩ := AX_sound (n := n) hT [o] s (by simp only [dstOk, List.all_cons, List.all_nil, Bool.and_true]; exact hd.1) h1
    have k2' : s2 = s' := k2
    subst k2'
    exact ⟨s2, k1, AD_sound hT hne l s2 hd.2 h2⟩
theorem AD_list {F : Fence} (hF : OkF F) {m : Nat} {P : Program} {T : TypeId → TI} {M : Hn} {cl : Oper → Cls} {ops : Array Oper} {n : Nat} (hT : TOk P T) {E : PV → Value → Prop} {w0 : World} {Z0 : Nat → Prop} {Q : Exit → Act → World → Prop} (Kx : AS → Prop) (hQ : ∀ ρ s a w, Rel E w0 Z0 ρ n s a w → Kx s → Q .normal a w) :
    ∀ (l : List Oper) (ρ : Pl) (s : AS) (a : Act) (w : World), dstOk n l = true → AD P T M cl ops l s Kx → Rel E w0 Z0 ρ n s a w → wpListIn F m P ops Q l a w
  | [], ρ, s, a, w, _, h, R => hQ ρ s a w R h
  | o :: l, ρ, s, a, w, hd, .inl ⟨s', h1, h2⟩, R => by
    simp only [dstOk, List.all_cons, Bool.and_eq_true] at hd
    obtain ⟨s2, k1, k2⟩ := AX_sound (n := n) hT [o] s (by simp only [dstOk, List.all_cons, List.all_nil, Bool.and_true]; exact hd.1) h1
    have k2' : s2 = s' := k2
    subst k2'
    refine wpListIn_step (fun K hK => ?_)
    exact k1.soundIn hF R (fun ρ' a' w' R' => hK _ _ (AD_list hF hT Kx hQ l ρ' s2 a' w' hd.2 h2 R'))
  | o :: l, ρ, s, a, w, hd, .inr ⟨_, hg, hnd, hs⟩, R => by
    simp only [dstOk, List.all_cons, Bool.and_eq_true] at hd
    refine wpListIn_step (fun K hK => ?_)
    have hwt : Region.wanted o (yielded ops a.tmps) = true := by
      rcases hg with hg | ⟨j, want, t, hg, h1, h2⟩
      · simp only [Region.wanted, hg]
      · have hv := R.tmps t
        rw [h2] at hv
        have hv := hv.sc_inv
        have hlt : t < a.tmps.size := by
          apply Classical.byContradiction; intro c2
          simp [Array.getD, c2, undef] at hv
        have hy : yielded ops a.tmps j = some want := by
          have : a.tmps[t]? = some (.bool want) := by
            rw [Array.getElem?_eq_getElem hlt]
            simp [Array.getD, hlt] at hv
            rw [hv]
          simp [yielded, h1, this]
        simp only [Region.wanted, hg, hy]
        simp
    simp only [hwt, if_true]
    refine op_in hF hnd (hs hT w0 Z0 ρ w a _ _ R.heap (fun x => R.ev x) (fun v h' u w' ρ' hQ' H' hv' up => ?_))
    refine hK _ _ (AD_list hF hT Kx hQ l ρ' _ _ w' hd.2 hQ' (R.put H' up (fun x hx => ?_) hv'))
    have := hd.1
    rw [hx] at this
    simpa using this
structure AW (P : Program) (T : TypeId → TI) (M : Hn) (cl : Oper → Cls) (ops : Array Oper) (l : List Oper) (s : AS) (K : AS → Prop) : Prop where
  out : AD P T M cl ops l s K
structure CW (P : Program) (T : TypeId → TI) (M : Hn) (n : Nat) (c : Code) (s : AS) (Q : Exit → AS → Prop) : Prop where
  out : TOk P T → P.follows .mixedOrders = true → codeOk M n c = true → AWP P n c s Q
structure TQ (next : AS → Prop) (Q : Exit → AS → Prop) (e : Exit) (s : AS) : Prop where
  out : thenQ next Q e s
structure BQ (id : Nat) (Q : Exit → AS → Prop) (e : Exit) (s : AS) : Prop where
  out : blockQ id Q e s
variable {P : Program} {T : TypeId → TI} {M : Hn} {cl : Oper → Cls} {ops : Array Oper} {l : List Oper} {t : Nat → PV} {h : HP} {K : AS → Prop} {d : Nat} {ty : TypeId} {pos : String} {aft : Array Edge} {n : Nat} {Q : Exit → AS → Prop}
theorem AW.move {x : Operand} {v : PV} (hx : evA t x = v) (hk : AW P T M cl ops l ⟨upd t d v, h⟩ K) : AW P T M cl ops (⟨some d, .move x, ty, pos, aft, none⟩ :: l) ⟨t, h⟩ K := ⟨.inl ⟨_, AX.move hx (AX.nil rfl), hk.out⟩⟩
theorem AW.assign {x : Operand} {v : PV} (hx : evA t x = v) (hk : AW P T M cl ops l ⟨upd t d v, h⟩ K) : AW P T M cl ops (⟨some d, .assign x, ty, pos, aft, none⟩ :: l) ⟨t, h⟩ K := ⟨.inl ⟨_, AX.assign hx (AX.nil rfl), hk.out⟩⟩
theorem AW.pick {x y z : Operand} {b : Bool} {v : PV} (hx : evA t x = .sc (.bool b)) (hv : (if b then evA t y else evA t z) = v) (hk : AW P T M cl ops l ⟨upd t d v, h⟩ K) : AW P T M cl ops (⟨some d, .pick x y z, ty, pos, aft, none⟩ :: l) ⟨t, h⟩ K := ⟨.inl ⟨_, AX.pick hx hv (AX.nil rfl), hk.out⟩⟩
theorem AW.binf {bop : BinOp} {tt t2 : TypeId} {x y : Operand} {vx vy v : Value} (hx : flv (evA t x) = some vx) (hy : flv (evA t y) = some vy) (hr : ∀ w, (do eqGuard bop tt x y vx vy; binOp bop tt vx vy : Sem Value).run P w = .ok v w) (hk : AW P T M cl ops l ⟨upd t d (.sc v), h⟩ K) : AW P T M cl ops (⟨some d, .binOp bop tt x y t2, ty, pos, aft, none⟩ :: l) ⟨t, h⟩ K := ⟨.inl ⟨_, AX.binf hx hy hr (AX.nil rfl), hk.out⟩⟩
theorem AW.add {tt t2 : TypeId} {x y : Operand} {a b : Int} (hx : evA t x = .sc (.int .i64 a)) (hy : evA t y = .sc (.int .i64 b)) (hb : in64 (a + b)) (hk : AW P T M cl ops l ⟨upd t d (.sc (.int .i64 (a + b))), h⟩ K) : AW P T M cl ops (⟨some d, .binOp .add tt x y t2, ty, pos, aft, none⟩ :: l) ⟨t, h⟩ K := ⟨.inl ⟨_, AX.add hx hy hb (AX.nil rfl), hk.out⟩⟩
theorem AW.sub {tt t2 : TypeId} {x y : Operand} {a b : Int} (hx : evA t x = .sc (.int .i64 a)) (hy : evA t y = .sc (.int .i64 b)) (hb : in64 (a - b)) (hk : AW P T M cl ops l ⟨upd t d (.sc (.int .i64 (a - b))), h⟩ K) : AW P T M cl ops (⟨some d, .binOp .sub tt x y t2, ty, pos, aft, none⟩ :: l) ⟨t, h⟩ K := ⟨.inl ⟨_, AX.sub hx hy hb (AX.nil rfl), hk.out⟩⟩
theorem AW.mul {tt t2 : TypeId} {x y : Operand} {a b : Int} (hx : evA t x = .sc (.int .i64 a)) (hy : evA t y = .sc (.int .i64 b)) (hb : in64 (a * b)) (hk : AW P T M cl ops l ⟨upd t d (.sc (.int .i64 (a * b))), h⟩ K) : AW P T M cl ops (⟨some d, .binOp .mul tt x y t2, ty, pos, aft, none⟩ :: l) ⟨t, h⟩ K := ⟨.inl ⟨_, AX.mul hx hy hb (AX.nil rfl), hk.out⟩⟩
theorem AW.quo {tt t2 : TypeId} {x y : Operand} {a b : Int} (hx : evA t x = .sc (.int .i64 a)) (hy : evA t y = .sc (.int .i64 b)) (hb : b ≠ 0 ∧ -9223372036854775807 ≤ a ∧ a ≤ 9223372036854775807) (hk : AW P T M cl ops l ⟨upd t d (.sc (.int .i64 (a.tdiv b))), h⟩ K) : AW P T M cl ops (⟨some d, .binOp .quo tt x y t2, ty, pos, aft, none⟩ :: l) ⟨t, h⟩ K := ⟨.inl ⟨_, AX.quo hx hy hb (AX.nil rfl), hk.out⟩⟩
theorem AW.rem {tt t2 : TypeId} {x y : Operand} {a b : Int} (hx : evA t x = .sc (.int .i64 a)) (hy : evA t y = .sc (.int .i64 b)) (hb : b ≠ 0) (hk : AW P T M cl ops l ⟨upd t d (.sc (.int .i64 (a.tmod b))), h⟩ K) : AW P T M cl ops (⟨some d, .binOp .rem tt x y t2, ty, pos, aft, none⟩ :: l) ⟨t, h⟩ K := ⟨.inl ⟨_, AX.rem hx hy hb (AX.nil rfl), hk.out⟩⟩
theorem AW.eql {tt t2 : TypeId} {x y : Operand} {a b : Int} (hx : evA t x = .sc (.int .i64 a)) (hy : evA t y = .sc (.int .i64 b)) (hk : AW P T M cl ops l ⟨upd t d (.sc (.bool (decide (a = b)))), h⟩ K) : AW P T M cl ops (⟨some d, .binOp .eql tt x y t2, ty, pos, aft, none⟩ :: l) ⟨t, h⟩ K := ⟨.inl ⟨_, AX.eql hx hy (AX.nil rfl), hk.out⟩⟩
theorem AW.neq {tt t2 : TypeId} {x y : Operand} {a b : Int} (hx : evA t x = .sc (.int .i64 a)) (hy : evA t y = .sc (.int .i64 b)) (hk : AW P T M cl ops l ⟨upd t d (.sc (.bool (!decide (a = b)))), h⟩ K) : AW P T M cl ops (⟨some d, .binOp .neq tt x y t2, ty, pos, aft, none⟩ :: l) ⟨t, h⟩ K := ⟨.inl ⟨_, AX.neq hx hy (AX.nil rfl), hk.out⟩⟩
theorem AW.lss {tt t2 : TypeId} {x y : Operand} {a b : Int} (hx : evA t x = .sc (.int .i64 a)) (hy : evA t y = .sc (.int .i64 b)) (hk : AW P T M cl ops l ⟨upd t d (.sc (.bool (decide (a < b)))), h⟩ K) : AW P T M cl ops (⟨some d, .binOp .lss tt x y t2, ty, pos, aft, none⟩ :: l) ⟨t, h⟩ K := ⟨.inl ⟨_, AX.lss hx hy (AX.nil rfl), hk.out⟩⟩
theorem AW.leq {tt t2 : TypeId} {x y : Operand} {a b : Int} (hx : evA t x = .sc (.int .i64 a)) (hy : evA t y = .sc (.int .i64 b)) (hk : AW P T M cl ops l ⟨upd t d (.sc (.bool (decide (a ≤ b)))), h⟩ K) : AW P T M cl ops (⟨some d, .binOp .leq tt x y t2, ty, pos, aft, none⟩ :: l) ⟨t, h⟩ K := ⟨.inl ⟨_, AX.leq hx hy (AX.nil rfl), hk.out⟩⟩
theorem AW.gtr {tt t2 : TypeId} {x y : Operand} {a b : Int} (hx : evA t x = .sc (.int .i64 a)) (hy : evA t y = .sc (.int .i64 b)) (hk : AW P T M cl ops l ⟨upd t d (.sc (.bool (decide (b < a)))), h⟩ K) : AW P T M cl ops (⟨some d, .binOp .gtr tt x y t2, ty, pos, aft, none⟩ :: l) ⟨t, h⟩ K := ⟨.inl ⟨_, AX.gtr hx hy (AX.nil rfl), hk.out⟩⟩
theorem AW.geq {tt t2 : TypeId} {x y : Operand} {a b : Int} (hx : evA t x = .sc (.int .i64 a)) (hy : evA t y = .sc (.int .i64 b)) (hk : AW P T M cl ops l ⟨upd t d (.sc (.bool (decide (b ≤ a)))), h⟩ K) : AW P T M cl ops (⟨some d, .binOp .geq tt x y t2, ty, pos, aft, none⟩ :: l) ⟨t, h⟩ K := ⟨.inl ⟨_, AX.geq hx hy (AX.nil rfl), hk.out⟩⟩
theorem AW.neg {tt : TypeId} {x : Operand} {a : Int} (hx : evA t x = .sc (.int .i64 a)) (hb : in64 (-a)) (hk : AW P T M cl ops l ⟨upd t d (.sc (.int .i64 (-a))), h⟩ K) : AW P T M cl ops (⟨some d, .unOp .neg tt x, ty, pos, aft, none⟩ :: l) ⟨t, h⟩ K := ⟨.inl ⟨_, AX.neg hx hb (AX.nil rfl), hk.out⟩⟩
theorem AW.not {tt : TypeId} {x : Operand} {a : Bool} (hx : evA t x = .sc (.bool a)) (hk : AW P T M cl ops l ⟨upd t d (.sc (.bool (!a))), h⟩ K) : AW P T M cl ops (⟨some d, .unOp .not tt x, ty, pos, aft, none⟩ :: l) ⟨t, h⟩ K := ⟨.inl ⟨_, AX.not hx (AX.nil rfl), hk.out⟩⟩
theorem AW.lenl {tt : TypeId} {x : Operand} {el sz bs m sz' : Nat} {zc : List Value} {c : Bool} {cs : List PV} (hx : evA t x = .lst c sz' m cs) (ht : T tt = .sl el sz bs zc) (hk : AW P T M cl ops l ⟨upd t d (.sc (.int .i64 m)), h⟩ K) :
    AW P T M cl ops (⟨some d, .call ⟨.builtin .len, #[x], #[tt]⟩, ty, pos, aft, none⟩ :: l) ⟨t, h⟩ K := ⟨.inl ⟨_, AX.lenl hx ht (AX.nil rfl), hk.out⟩⟩
theorem AW.lenr {tt : TypeId} {x : Operand} {el sz bs m sz' tk off : Nat} {zc : List Value} (hx : evA t x = .ref tk off sz' m) (ht : T tt = .sl el sz bs zc) (hk : AW P T M cl ops l ⟨upd t d (.sc (.int .i64 m)), h⟩ K) :
    AW P T M cl ops (⟨some d, .call ⟨.builtin .len, #[x], #[tt]⟩, ty, pos, aft, none⟩ :: l) ⟨t, h⟩ K := ⟨.inl ⟨_, AX.lenr hx ht (AX.nil rfl), hk.out⟩⟩
theorem AW.lenm {tt : TypeId} {x : Operand} {m : MF} {z : Value} {ks : List Int} (hx : evA t x = .fmap m) (ht : T tt = .mp z) (h1 : ks.Nodup) (h2 : ∀ q, q ∈ ks ↔ m q ≠ none) (hk : AW P T M cl ops l ⟨upd t d (.sc (.int .i64 (ks.length : Nat))), h⟩ K) :
    AW P T M cl ops (⟨some d, .call ⟨.builtin .len, #[x], #[tt]⟩, ty, pos, aft, none⟩ :: l) ⟨t, h⟩ K := ⟨.inl ⟨_, AX.lenm hx ht h1 h2 (AX.nil rfl), hk.out⟩⟩
theorem AW.min {ats : Array TypeId} {x y : Operand} {a b : Int} (hx : evA t x = .sc (.int .i64 a)) (hy : evA t y = .sc (.int .i64 b)) (hk : AW P T M cl ops l ⟨upd t d (.sc (.int .i64 (if b < a then b else a))), h⟩ K) :
    AW P T M cl ops (⟨some d, .call ⟨.builtin .min, #[x, y], ats⟩, ty, pos, aft, none⟩ :: l) ⟨t, h⟩ K := ⟨.inl ⟨_, AX.min hx hy (AX.nil rfl), hk.out⟩⟩
theorem AW.max {ats : Array TypeId} {x y : Operand} {a b : Int} (hx : evA t x = .sc (.int .i64 a)) (hy : evA t y = .sc (.int .i64 b)) (hk : AW P T M cl ops l ⟨upd t d (.sc (.int .i64 (if a < b then b else a))), h⟩ K) :
    AW P T M cl ops (⟨some d, .call ⟨.builtin .max, #[x, y], ats⟩, ty, pos, aft, none⟩ :: l) ⟨t, h⟩ K := ⟨.inl ⟨_, AX.max hx hy (AX.nil rfl), hk.out⟩⟩
theorem AW.eqn {bop : BinOp} {tt t2 : TypeId} {x : Operand} {el sz bs m sz' : Nat} {zc : List Value} {c : Bool} {cs : List PV} {v : PV} (hb : bop = .eql ∨ bop = .neq) (hx : evA t x = .lst c sz' m cs) (ht : T tt = .sl el sz bs zc) (hs : sz' = sz ∨ m = 0) (hv : (if m = 0 then PV.anyB else .sc (.bool (isNeq bop))) = v) (hk : AW P T M cl ops l ⟨upd t d v, h⟩ K) :
    AW P T M cl ops (⟨some d, .binOp bop tt x (.const (.slice none 0 0)) t2, ty, pos, aft, none⟩ :: l) ⟨t, h⟩ K := ⟨.inl ⟨_, AX.eqn hb hx ht hs hv (AX.nil rfl), hk.out⟩⟩
theorem AW.cap {tt : TypeId} {x : Operand} {el sz bs m sz' : Nat} {zc : List Value} {cs : List PV} (hx : evA t x = .lst true sz' m cs) (ht : T tt = .sl el sz bs zc) (hk : AW P T M cl ops l ⟨upd t d (.sc (.int .i64 m)), h⟩ K) :
    AW P T M cl ops (⟨some d, .call ⟨.builtin .cap, #[x], #[tt]⟩, ty, pos, aft, none⟩ :: l) ⟨t, h⟩ K := ⟨.inl ⟨_, AX.cap hx ht (AX.nil rfl), hk.out⟩⟩
theorem AW.mkf {f : FuncId} {xs : Array Operand} {ps : List PV} (hp : xs.toList.map (evA t) = ps) (hk : AW P T M cl ops l ⟨upd t d (.clo f ps), h⟩ K) : AW P T M cl ops (⟨some d, .makeFunc (.func f) #[] xs, ty, pos, aft, none⟩ :: l) ⟨t, h⟩ K := ⟨.inl ⟨_, AX.mkf hp (AX.nil rfl), hk.out⟩⟩
theorem AW.callv {y : Tmp} {f : FuncId} {cap : List PV} {xs : Array Operand} {ats : Array TypeId} {args : List PV} {r : PV} (hy : evA t (.tmp y) = .clo f cap) (ha : xs.toList.map (evA t) ++ cap = args) (hc : PV.cl.clL args = true) (hs : SC P f args r) (hk : AW P T M cl ops l ⟨upd t d r, h⟩ K) :
    AW P T M cl ops (⟨some d, .call ⟨.value (.tmp y), xs, ats⟩, ty, pos, aft, none⟩ :: l) ⟨t, h⟩ K := ⟨.inl ⟨_, AX.callv hy ha hc hs (AX.nil rfl), hk.out⟩⟩
theorem AW.call {f : FuncId} {xs : Array Operand} {ats : Array TypeId} {args : List PV} {r : PV} (ha : xs.toList.map (evA t) = args) (hc : PV.cl.clL args = true) (hs : SC P f args r) (hk : AW P T M cl ops l ⟨upd t d r, h⟩ K) :
    AW P T M cl ops (⟨some d, .call ⟨.value (.func f), xs, ats⟩, ty, pos, aft, none⟩ :: l) ⟨t, h⟩ K := ⟨.inl ⟨_, AX.call ha hc hs (AX.nil rfl), hk.out⟩⟩
theorem AW.callo {f : FuncId} {xs : Array Operand} {ats : Array TypeId} {args : List PV} {sz m : Nat} {cs : List PV} (ha : xs.toList.map (evA t) = args) (h0 : cl ⟨some d, .call ⟨.value (.func f), xs, ats⟩, ty, pos, aft, none⟩ = .wr ∨ cl ⟨some d, .call ⟨.value (.func f), xs, ats⟩, ty, pos, aft, none⟩ = .wrS) (hc : PV.cl.clL args = true) (hs : SCo P f args sz m cs) (hk : AW P T M cl ops l ⟨upd t d (.ref (h.tok false) 0 sz m), h.add false cs⟩ K) :
    AW P T M cl ops (⟨some d, .call ⟨.value (.func f), xs, ats⟩, ty, pos, aft, none⟩ :: l) ⟨t, h⟩ K := ⟨.inl ⟨_, AX.callo ha h0 hc hs (AX.nil rfl), hk.out⟩⟩
theorem AW.callob {f : FuncId} {xs : Array Operand} {ats : Array TypeId} {args : List PV} {sz m : Nat} {cs : List PV} (ha : xs.toList.map (fun x => bw h (evA t x)) = args) (h0 : cl ⟨some d, .call ⟨.value (.func f), xs, ats⟩, ty, pos, aft, none⟩ = .wr ∨ cl ⟨some d, .call ⟨.value (.func f), xs, ats⟩, ty, pos, aft, none⟩ = .wrS) (hc : PV.cl.clL args = true) (hs : SCo P f args sz m cs) (hf : cs.all PV.bare = true) (hk : AW P T M cl ops l ⟨upd t d (.ref (h.tok false) 0 sz m), h.add false cs⟩ K) :
    AW P T M cl ops (⟨some d, .call ⟨.value (.func f), xs, ats⟩, ty, pos, aft, none⟩ :: l) ⟨t, h⟩ K := ⟨.inl ⟨_, AX.callob ha h0 hc hs hf (AX.nil rfl), hk.out⟩⟩
theorem AW.callm {f : FuncId} {xs : Array Operand} {x : Operand} {rs : List Operand} {ats : Array TypeId} {tk : Nat} {cs : List PV} {zs ys : List Int} {us : List Value} (hxs : xs.toList = x :: rs) (hx : evA t x = .ref tk 0 1 zs.length) (h0 : cl ⟨some d, .call ⟨.value (.func f), xs, ats⟩, ty, pos, aft, none⟩ = .wr ∨ cl ⟨some d, .call ⟨.value (.func f), xs, ats⟩, ty, pos, aft, none⟩ = .wrS ∧ tk % 2 = 0) (hb : h.blk tk = some cs) (hz : cs.take zs.length = zs.map (fun z => .sc (.int .i64 z))) (hn : 0 < zs.length) (hr : rs.map (evA t) = us.map .sc) (hs : SCm P f zs us ys)
    (hk : AW P T M cl ops l ⟨upd t d (.ref tk 0 1 ys.length), h.set tk (ys.map fun y => .sc (.int .i64 y))⟩ K) : AW P T M cl ops (⟨some d, .call ⟨.value (.func f), xs, ats⟩, ty, pos, aft, none⟩ :: l) ⟨t, h⟩ K := ⟨.inl ⟨_, AX.callm hxs hx h0 hb hz hn hr hs (AX.nil rfl), hk.out⟩⟩
theorem AW.callh {f : FuncId} {xs : Array Operand} {ats : Array TypeId} {args : List PV} {r : PV} {h' : HP} (ha : xs.toList.map (evA t) = args) (h0 : cl ⟨some d, .call ⟨.value (.func f), xs, ats⟩, ty, pos, aft, none⟩ = .wr) (hs : SCh P f args h r h') (hk : AW P T M cl ops l ⟨upd t d r, h'⟩ K) :
    AW P T M cl ops (⟨some d, .call ⟨.value (.func f), xs, ats⟩, ty, pos, aft, none⟩ :: l) ⟨t, h⟩ K := ⟨.inl ⟨_, AX.callh ha h0 hs (AX.nil rfl), hk.out⟩⟩
theorem AW.callb {f : FuncId} {xs : Array Operand} {ats : Array TypeId} {args : List PV} {r : PV} (ha : xs.toList.map (fun x => bw h (evA t x)) = args) (h0 : cl ⟨some d, .call ⟨.value (.func f), xs, ats⟩, ty, pos, aft, none⟩ = .read ∨ cl ⟨some d, .call ⟨.value (.func f), xs, ats⟩, ty, pos, aft, none⟩ = .wrS ∨ cl ⟨some d, .call ⟨.value (.func f), xs, ats⟩, ty, pos, aft, none⟩ = .wr) (hc : PV.cl.clL args = true) (hs : SC P f args r) (hf : r.flat = true)
    (hk : AW P T M cl ops l ⟨upd t d r, h⟩ K) : AW P T M cl ops (⟨some d, .call ⟨.value (.func f), xs, ats⟩, ty, pos, aft, none⟩ :: l) ⟨t, h⟩ K := ⟨.inl ⟨_, AX.callb ha h0 hc hs hf (AX.nil rfl), hk.out⟩⟩
theorem AW.ixl {tt : TypeId} {x ix : Operand} {c : Bool} {el sz bs m : Nat} {zc : List Value} {cs : List PV} {k : IntKind} {i : Int} (hx : evA t x = .lst c sz m cs) (hi : evA t ix = .sc (.int k i)) (ht : T tt = .sl el sz bs zc) (hb : 0 ≤ i ∧ i < m)
    (hk : AW P T M cl ops l ⟨upd t d (.lptr (cs.drop (i.toNat * sz))), h⟩ K) : AW P T M cl ops (⟨some d, .indexAddr tt x ix, ty, pos, aft, none⟩ :: l) ⟨t, h⟩ K := ⟨.inl ⟨_, AX.ixl hx hi ht hb (AX.nil rfl), hk.out⟩⟩
theorem AW.ixr {tt : TypeId} {x ix : Operand} {el sz bs m tk off : Nat} {zc : List Value} {k : IntKind} {i : Int} (hx : evA t x = .ref tk off sz m) (hi : evA t ix = .sc (.int k i)) (ht : T tt = .sl el sz bs zc) (hb : 0 ≤ i ∧ i < m)
    (hk : AW P T M cl ops l ⟨upd t d (.ptr tk (off + i.toNat * sz)), h⟩ K) : AW P T M cl ops (⟨some d, .indexAddr tt x ix, ty, pos, aft, none⟩ :: l) ⟨t, h⟩ K := ⟨.inl ⟨_, AX.ixr hx hi ht hb (AX.nil rfl), hk.out⟩⟩
theorem AW.ixap {tt : TypeId} {x ix : Operand} {len el sz tot tk off : Nat} {zc : List Value} {k : IntKind} {i : Int} (hx : evA t x = .ptr tk off) (hi : evA t ix = .sc (.int k i)) (ht : T tt = .ar len el sz tot zc) (hb : 0 ≤ i ∧ i < len)
    (hk : AW P T M cl ops l ⟨upd t d (.ptr tk (off + i.toNat * sz)), h⟩ K) : AW P T M cl ops (⟨some d, .indexAddr tt x ix, ty, pos, aft, none⟩ :: l) ⟨t, h⟩ K := ⟨.inl ⟨_, AX.ixap hx hi ht hb (AX.nil rfl), hk.out⟩⟩
theorem AW.ixal {tt : TypeId} {x ix : Operand} {len el sz tot : Nat} {zc : List Value} {cs : List PV} {k : IntKind} {i : Int} (hx : evA t x = .lptr cs) (hi : evA t ix = .sc (.int k i)) (ht : T tt = .ar len el sz tot zc) (hb : 0 ≤ i ∧ i < len)
    (hk : AW P T M cl ops l ⟨upd t d (.lptr (cs.drop (i.toNat * sz))), h⟩ K) : AW P T M cl ops (⟨some d, .indexAddr tt x ix, ty, pos, aft, none⟩ :: l) ⟨t, h⟩ K := ⟨.inl ⟨_, AX.ixal hx hi ht hb (AX.nil rfl), hk.out⟩⟩
theorem AW.ldl {tt : TypeId} {x : Operand} {cs : List PV} {p : PV} (hx : evA t x = .lptr cs) (ht : (T tt).shape = some (false, 1)) (hp : cs[0]? = some p) (hk : AW P T M cl ops l ⟨upd t d p, h⟩ K) : AW P T M cl ops (⟨some d, .load tt x, ty, pos, aft, none⟩ :: l) ⟨t, h⟩ K := ⟨.inl ⟨_, AX.ldl hx ht hp (AX.nil rfl), hk.out⟩⟩
theorem AW.ldla {tt : TypeId} {x : Operand} {cs r : List PV} {sz : Nat} (hx : evA t x = .lptr cs) (ht : (T tt).shape = some (true, sz)) (hp : sz ≤ cs.length) (hr : cs.take sz = r) (hk : AW P T M cl ops l ⟨upd t d (.agg r), h⟩ K) : AW P T M cl ops (⟨some d, .load tt x, ty, pos, aft, none⟩ :: l) ⟨t, h⟩ K := ⟨.inl ⟨_, AX.ldla hx ht hp hr (AX.nil rfl), hk.out⟩⟩
theorem AW.ldm {tt : TypeId} {x : Operand} {tk off : Nat} {cs : List PV} {p : PV} (hx : evA t x = .ptr tk off) (h0 : cl ⟨some d, .load tt x, ty, pos, aft, none⟩ = .read ∨ cl ⟨some d, .load tt x, ty, pos, aft, none⟩ = .wrS ∨ cl ⟨some d, .load tt x, ty, pos, aft, none⟩ = .wr ∨ cl ⟨some d, .load tt x, ty, pos, aft, none⟩ = .readB ∧ tk % 2 = 1 ∨ cl ⟨some d, .load tt x, ty, pos, aft, none⟩ = .readL ∧ tk % 2 = 0) (ht : (T tt).shape = some (false, 1)) (hb : h.blk tk = some cs) (hp : cs[off]? = some p) (hk : AW P T M cl ops l ⟨upd t d p, h⟩ K) : AW P T M cl ops (⟨some d, .load tt x, ty, pos, aft, none⟩ :: l) ⟨t, h⟩ K := ⟨.inl ⟨_, AX.ldm hx h0 ht hb hp (AX.nil rfl), hk.out⟩⟩
theorem AW.ldma {tt : TypeId} {x : Operand} {tk off sz : Nat} {cs r : List PV} (hx : evA t x = .ptr tk off) (h0 : cl ⟨some d, .load tt x, ty, pos, aft, none⟩ = .read ∨ cl ⟨some d, .load tt x, ty, pos, aft, none⟩ = .wrS ∨ cl ⟨some d, .load tt x, ty, pos, aft, none⟩ = .wr ∨ cl ⟨some d, .load tt x, ty, pos, aft, none⟩ = .readB ∧ tk % 2 = 1 ∨ cl ⟨some d, .load tt x, ty, pos, aft, none⟩ = .readL ∧ tk % 2 = 0) (ht : (T tt).shape = some (true, sz)) (hb : h.blk tk = some cs) (hp : off + sz ≤ cs.length) (hr : (cs.drop off).take sz = r) (hk : AW P T M cl ops l ⟨upd t d (.agg r), h⟩ K) : AW P T M cl ops (⟨some d, .load tt x, ty, pos, aft, none⟩ :: l) ⟨t, h⟩ K := ⟨.inl ⟨_, AX.ldma hx h0 ht hb hp hr (AX.nil rfl), hk.out⟩⟩
theorem AW.st {tt : TypeId} {x y : Operand} {tk off : Nat} {cs : List PV} {v : PV} (hx : evA t x = .ptr tk off) (h0 : cl ⟨none, .store tt x y, ty, pos, aft, none⟩ = .wr ∨ cl ⟨none, .store tt x y, ty, pos, aft, none⟩ = .wrS ∧ tk % 2 = 0 ∨ cl ⟨none, .store tt x y, ty, pos, aft, none⟩ = .wrO ∧ tk % 2 = 1 ∨ cl ⟨none, .store tt x y, ty, pos, aft, none⟩ = .wrQ) (hy : evA t y = v) (ht : (T tt).shape = some (false, 1)) (hb : h.blk tk = some cs) (hl : off < cs.length) (h1 : v.one = true)
    (hk : AW P T M cl ops l ⟨t, h.set tk (cs.set off v)⟩ K) : AW P T M cl ops (⟨none, .store tt x y, ty, pos, aft, none⟩ :: l) ⟨t, h⟩ K := ⟨.inl ⟨_, AX.st hx h0 hy ht hb hl h1 (AX.nil rfl), hk.out⟩⟩
theorem AW.sta {tt : TypeId} {x y : Operand} {tk off sz : Nat} {cs vs : List PV} (hx : evA t x = .ptr tk off) (h0 : cl ⟨none, .store tt x y, ty, pos, aft, none⟩ = .wr ∨ cl ⟨none, .store tt x y, ty, pos, aft, none⟩ = .wrS ∧ tk % 2 = 0 ∨ cl ⟨none, .store tt x y, ty, pos, aft, none⟩ = .wrO ∧ tk % 2 = 1 ∨ cl ⟨none, .store tt x y, ty, pos, aft, none⟩ = .wrQ) (hy : evA t y = .agg vs) (ht : (T tt).shape = some (true, sz)) (hb : h.blk tk = some cs) (hv : vs.length = sz) (hl : off + sz ≤ cs.length) (h1 : ∀ p ∈ vs, p.one = true)
    (hk : AW P T M cl ops l ⟨t, h.set tk (cs.take off ++ vs ++ cs.drop (off + sz))⟩ K) : AW P T M cl ops (⟨none, .store tt x y, ty, pos, aft, none⟩ :: l) ⟨t, h⟩ K := ⟨.inl ⟨_, AX.sta hx h0 hy ht hb hv hl h1 (AX.nil rfl), hk.out⟩⟩
theorem AW.fal {tt : TypeId} {x : Operand} {f sz off s2 : Nat} {ag : Bool} {zc : List Value} {fs : List (Nat × Nat × Bool)} {cs r : List PV} (hx : evA t x = .lptr cs) (ht : T tt = .st sz zc fs) (hf : fs[f]? = some (off, s2, ag)) (hr : cs.drop off = r) (hk : AW P T M cl ops l ⟨upd t d (.lptr r), h⟩ K) :
    AW P T M cl ops (⟨some d, .fieldAddr tt x f, ty, pos, aft, none⟩ :: l) ⟨t, h⟩ K := ⟨.inl ⟨_, AX.fal hx ht hf hr (AX.nil rfl), hk.out⟩⟩
theorem AW.fam {tt : TypeId} {x : Operand} {f sz off s2 tk k k' : Nat} {ag : Bool} {zc : List Value} {fs : List (Nat × Nat × Bool)} (hx : evA t x = .ptr tk k) (ht : T tt = .st sz zc fs) (hf : fs[f]? = some (off, s2, ag)) (hk' : k + off = k') (hk : AW P T M cl ops l ⟨upd t d (.ptr tk k'), h⟩ K) :
    AW P T M cl ops (⟨some d, .fieldAddr tt x f, ty, pos, aft, none⟩ :: l) ⟨t, h⟩ K := ⟨.inl ⟨_, AX.fam hx ht hf hk' (AX.nil rfl), hk.out⟩⟩
theorem AW.fd {tt : TypeId} {x : Operand} {f sz off s2 : Nat} {zc : List Value} {fs : List (Nat × Nat × Bool)} {cs : List PV} {p : PV} (hx : evA t x = .agg cs) (ht : T tt = .st sz zc fs) (hf : fs[f]? = some (off, s2, false)) (hp : cs[off]? = some p) (hk : AW P T M cl ops l ⟨upd t d p, h⟩ K) :
    AW P T M cl ops (⟨some d, .field tt x f, ty, pos, aft, none⟩ :: l) ⟨t, h⟩ K := ⟨.inl ⟨_, AX.fd hx ht hf hp (AX.nil rfl), hk.out⟩⟩
theorem AW.nck {x : Operand} {v : PV} (hx : evA t x = v) (hp : v.isP = true) (hk : AW P T M cl ops l ⟨upd t d v, h⟩ K) : AW P T M cl ops (⟨some d, .nilCheck x, ty, pos, aft, none⟩ :: l) ⟨t, h⟩ K := ⟨.inl ⟨_, AX.nck hx hp (AX.nil rfl), hk.out⟩⟩
theorem AW.ext {x : Operand} {i : Nat} {vs : List PV} {p : PV} (hx : evA t x = .tup vs) (hp : vs[i]? = some p) (hk : AW P T M cl ops l ⟨upd t d p, h⟩ K) : AW P T M cl ops (⟨some d, .extract x i, ty, pos, aft, none⟩ :: l) ⟨t, h⟩ K := ⟨.inl ⟨_, AX.ext hx hp (AX.nil rfl), hk.out⟩⟩
theorem AW.boxl {tt : TypeId} {x : Operand} {cs : List PV} (hm : inL M.mt (some d) = false) (hx : evA t x = .agg cs) (hk : AW P T M cl ops l ⟨upd t d (.lptr cs), h⟩ K) : AW P T M cl ops (⟨some d, .box tt x, ty, pos, aft, none⟩ :: l) ⟨t, h⟩ K := ⟨.inl ⟨_, AX.boxl hm hx (AX.nil rfl), hk.out⟩⟩
theorem AW.boxs {tt : TypeId} {x : Operand} {v : Value} (hm : inL M.mt (some d) = false) (hx : evA t x = .sc v) (h1 : v.oneCell' = true) (hk : AW P T M cl ops l ⟨upd t d (.lptr [.sc v]), h⟩ K) : AW P T M cl ops (⟨some d, .box tt x, ty, pos, aft, none⟩ :: l) ⟨t, h⟩ K := ⟨.inl ⟨_, AX.boxs hm hx h1 (AX.nil rfl), hk.out⟩⟩
theorem AW.boxm {tt : TypeId} {x : Operand} {cs : List PV} (hm : inL M.mt (some d) = true) (h0 : cl ⟨some d, .box tt x, ty, pos, aft, none⟩ = .wr) (hx : evA t x = .agg cs) (hk : AW P T M cl ops l ⟨upd t d (.ptr (h.tok true) 0), h.add true cs⟩ K) : AW P T M cl ops (⟨some d, .box tt x, ty, pos, aft, none⟩ :: l) ⟨t, h⟩ K := ⟨.inl ⟨_, AX.boxm hm h0 hx (AX.nil rfl), hk.out⟩⟩
theorem AW.alloc {tt : TypeId} {zc : List Value} {cs : List PV} (h0 : cl ⟨some d, .alloc tt, ty, pos, aft, none⟩ = .wr) (hz : (T tt).zero = some zc) (hc : zc.map ofConst.ofCell = cs) (hk : AW P T M cl ops l ⟨upd t d (.ptr (h.tok true) 0), h.add true cs⟩ K) : AW P T M cl ops (⟨some d, .alloc tt, ty, pos, aft, none⟩ :: l) ⟨t, h⟩ K := ⟨.inl ⟨_, AX.alloc h0 hz hc (AX.nil rfl), hk.out⟩⟩
theorem AW.alloA {tt : TypeId} {zc : List Value} {cs : List PV} (tk : Nat) (h0 : cl ⟨some d, .alloc tt, ty, pos, aft, none⟩ = .wrA) (hz : (T tt).zero = some zc) (hc : zc.map ofConst.ofCell = cs) (hw : h.win tk = true) (hk : AW P T M cl ops l ⟨upd t d (.ptr tk 0), h.put tk cs⟩ K) : AW P T M cl ops (⟨some d, .alloc tt, ty, pos, aft, none⟩ :: l) ⟨t, h⟩ K := ⟨.inl ⟨_, AX.alloA tk h0 hz hc hw (AX.nil rfl), hk.out⟩⟩
theorem AW.alloS {tt : TypeId} {zc : List Value} {cs : List PV} (h0 : cl ⟨some d, .alloc tt, ty, pos, aft, none⟩ = .wrS) (hz : (T tt).zero = some zc) (hc : zc.map ofConst.ofCell = cs) (hk : AW P T M cl ops l ⟨upd t d (.ptr (h.tok false) 0), h.add false cs⟩ K) : AW P T M cl ops (⟨some d, .alloc tt, ty, pos, aft, none⟩ :: l) ⟨t, h⟩ K := ⟨.inl ⟨_, AX.alloS h0 hz hc (AX.nil rfl), hk.out⟩⟩
theorem AW.slp {tt : TypeId} {x hi : Operand} {len el tot : Nat} {zc : List Value} {cs : List PV} {k : IntKind} {zh : Int} (hx : evA t x = .lptr cs) (ht : T tt = .ar len el 1 tot zc) (hy : evA t hi = .sc (.int k zh)) (hc : cs.length = len) (hb : 0 ≤ zh ∧ zh ≤ len ∧ len ≤ 1000000)
    (hk : AW P T M cl ops l ⟨upd t d (.lst false 1 zh.toNat (cs.take zh.toNat)), h⟩ K) : AW P T M cl ops (⟨some d, .slice tt x none (some hi) none, ty, pos, aft, none⟩ :: l) ⟨t, h⟩ K := ⟨.inl ⟨_, AX.slp hx ht hy hc hb (AX.nil rfl), hk.out⟩⟩
theorem AW.sll {tt : TypeId} {x : Operand} {lo hi : Option Operand} {c : Bool} {el sz' sz bs m : Nat} {zc : List Value} {cs : List PV} {zl zh : Int} (hx : evA t x = .lst c sz' m cs) (ht : T tt = .sl el sz bs zc) (hs : sz' = sz ∨ m = 0) (hl : bndI (evA t) lo 0 zl) (hh : bndI (evA t) hi m zh) (hb : 0 ≤ zl ∧ zl ≤ zh ∧ zh ≤ m)
    (hk : AW P T M cl ops l ⟨upd t d (.lst (c && hi.isNone) sz (zh.toNat - zl.toNat) ((cs.drop (zl.toNat * sz)).take ((zh.toNat - zl.toNat) * sz))), h⟩ K) : AW P T M cl ops (⟨some d, .slice tt x lo hi none, ty, pos, aft, none⟩ :: l) ⟨t, h⟩ K := ⟨.inl ⟨_, AX.sll hx ht hs hl hh hb (AX.nil rfl), hk.out⟩⟩
theorem AW.sll3 {tt : TypeId} {x hi mx : Operand} {lo : Option Operand} {c : Bool} {el sz' sz bs m : Nat} {zc : List Value} {cs : List PV} {zl zh : Int} (hx : evA t x = .lst c sz' m cs) (ht : T tt = .sl el sz bs zc) (hs : sz' = sz ∨ m = 0) (hl : bndI (evA t) lo 0 zl) (hh : bndI (evA t) (some hi) m zh) (hm : bndI (evA t) (some mx) m zh) (hb : 0 ≤ zl ∧ zl ≤ zh ∧ zh ≤ m)
    (hk : AW P T M cl ops l ⟨upd t d (.lst true sz (zh.toNat - zl.toNat) ((cs.drop (zl.toNat * sz)).take ((zh.toNat - zl.toNat) * sz))), h⟩ K) : AW P T M cl ops (⟨some d, .slice tt x lo (some hi) (some mx), ty, pos, aft, none⟩ :: l) ⟨t, h⟩ K := ⟨.inl ⟨_, AX.sll3 hx ht hs hl hh hm hb (AX.nil rfl), hk.out⟩⟩
theorem AW.slr {tt : TypeId} {x : Operand} {lo hi : Option Operand} {el sz bs m tk off : Nat} {zc : List Value} {zl zh : Int} (hx : evA t x = .ref tk off sz m) (ht : T tt = .sl el sz bs zc) (hl : bndI (evA t) lo 0 zl) (hh : bndI (evA t) hi m zh) (hb : 0 ≤ zl ∧ zl ≤ zh ∧ zh ≤ m)
    (hk : AW P T M cl ops l ⟨upd t d (.ref tk (off + zl.toNat * sz) sz (zh.toNat - zl.toNat)), h⟩ K) : AW P T M cl ops (⟨some d, .slice tt x lo hi none, ty, pos, aft, none⟩ :: l) ⟨t, h⟩ K := ⟨.inl ⟨_, AX.slr hx ht hl hh hb (AX.nil rfl), hk.out⟩⟩
theorem AW.bld {tt : TypeId} {parts : Array (Nat × Operand)} {sz : Nat} {zc : List Value} {fs : List (Nat × Nat × Bool)} {cs r : List PV} {ps : List (Nat × PV)} (ht : T tt = .st sz zc fs) (hp : (parts.toList.map fun x => (x.1, evA t x.2)) = ps) (hf : fillA (fun i => (fs.map fun x => (x.1, x.2.1))[i]?) (zc.map ofConst.ofCell) ps = some cs) (hr : cs = r)
    (hk : AW P T M cl ops l ⟨upd t d (.agg r), h⟩ K) : AW P T M cl ops (⟨some d, .build tt parts, ty, pos, aft, none⟩ :: l) ⟨t, h⟩ K := ⟨.inl ⟨_, AX.bld ht hp hf hr (AX.nil rfl), hk.out⟩⟩
theorem AW.bsl {tt : TypeId} {len : Nat} {parts : Array (Nat × Operand)} {el sz bs : Nat} {zc : List Value} {cs r : List PV} {ps : List (Nat × PV)} (hm : inL M.mt (some d) = false) (ht : T tt = .sl el sz bs zc) (hb : len * sz ≤ 16777216) (hp : (parts.toList.map fun x => (x.1, evA t x.2)) = ps)
    (hf : fillA (fun i => some (i * sz, sz)) ((List.replicate len (zc.map ofConst.ofCell)).flatten) ps = some cs) (hr : cs = r) (hk : AW P T M cl ops l ⟨upd t d (.lst true sz len r), h⟩ K) : AW P T M cl ops (⟨some d, .buildSlice tt len parts, ty, pos, aft, none⟩ :: l) ⟨t, h⟩ K := ⟨.inl ⟨_, AX.bsl hm ht hb hp hf hr (AX.nil rfl), hk.out⟩⟩
theorem AW.bslm {tt : TypeId} {len : Nat} {parts : Array (Nat × Operand)} {el sz bs : Nat} {zc : List Value} {cs r : List PV} {ps : List (Nat × PV)} (hm : inL M.mt (some d) = true) (h0 : cl ⟨some d, .buildSlice tt len parts, ty, pos, aft, none⟩ = .wr ∨ cl ⟨some d, .buildSlice tt len parts, ty, pos, aft, none⟩ = .wrS) (ht : T tt = .sl el sz bs zc) (hb : len * sz ≤ 16777216) (hp : (parts.toList.map fun x => (x.1, evA t x.2)) = ps)
    (hf : fillA (fun i => some (i * sz, sz)) ((List.replicate len (zc.map ofConst.ofCell)).flatten) ps = some cs) (hr : cs = r) (hk : AW P T M cl ops l ⟨upd t d (.ref (h.tok false) 0 sz len), h.add false r⟩ K) : AW P T M cl ops (⟨some d, .buildSlice tt len parts, ty, pos, aft, none⟩ :: l) ⟨t, h⟩ K := ⟨.inl ⟨_, AX.bslm hm h0 ht hb hp hf hr (AX.nil rfl), hk.out⟩⟩
theorem AW.app {tt : TypeId} {x y : Operand} {el sz bs m m2 tk off : Nat} {zc : List Value} {cs cs2 r : List PV} (hx : evA t x = .ref tk off sz m) (h0 : cl ⟨some d, .call ⟨.builtin .append, #[x, y], #[tt, tt]⟩, ty, pos, aft, none⟩ = .wr ∨ cl ⟨some d, .call ⟨.builtin .append, #[x, y], #[tt, tt]⟩, ty, pos, aft, none⟩ = .wrS ∧ tk % 2 = 0) (ht : T tt = .sl el sz bs zc) (hb : h.blk tk = some cs) (hy : srcA h (evA t y) sz m2 cs2)
    (hl : off + m * sz ≤ cs.length) (h1 : ∀ p ∈ cs2, p.one = true) (hbd : (m + m2) * bs ≤ 140737488355328 ∧ m + m2 ≤ 140737488355328) (hr : (cs.drop off).take (m * sz) ++ cs2 = r) {q : Nat} (hn : m + m2 = q) (hk : AW P T M cl ops l ⟨upd t d (.ref (h.tok false) 0 sz q), (h.kill tk).add false r⟩ K) :
    AW P T M cl ops (⟨some d, .call ⟨.builtin .append, #[x, y], #[tt, tt]⟩, ty, pos, aft, none⟩ :: l) ⟨t, h⟩ K := ⟨.inl ⟨_, AX.app hx h0 ht hb hy hl h1 hbd hr hn (AX.nil rfl), hk.out⟩⟩
theorem AW.ap0 {tt : TypeId} {x y : Operand} {el sz bs m sz' : Nat} {c : Bool} {zc : List Value} {cs cs2 : List PV} (h0 : cl ⟨some d, .call ⟨.builtin .append, #[x, y], #[tt, tt]⟩, ty, pos, aft, none⟩ = .read ∨ cl ⟨some d, .call ⟨.builtin .append, #[x, y], #[tt, tt]⟩, ty, pos, aft, none⟩ = .wrS ∨ cl ⟨some d, .call ⟨.builtin .append, #[x, y], #[tt, tt]⟩, ty, pos, aft, none⟩ = .wr)
    (hx : evA t x = .lst c sz' m cs) (ht : T tt = .sl el sz bs zc) (hy : srcA h (evA t y) sz 0 cs2) (hk : AW P T M cl ops l ⟨upd t d (.lst c sz' m cs), h⟩ K) :
    AW P T M cl ops (⟨some d, .call ⟨.builtin .append, #[x, y], #[tt, tt]⟩, ty, pos, aft, none⟩ :: l) ⟨t, h⟩ K := ⟨.inl ⟨_, AX.ap0 h0 hx ht hy (AX.nil rfl), hk.out⟩⟩
theorem AW.mvz {x : Operand} {tk : Nat} {m : MF} (hf : inL M.fz (some d) = true) (hx : evA t x = .mref tk) (h0 : cl ⟨some d, .move x, ty, pos, aft, none⟩ = .wr) (hm : h.sp tk = some (.map m)) (hk : AW P T M cl ops l ⟨upd t d (.fmap m), h.killS tk⟩ K) : AW P T M cl ops (⟨some d, .move x, ty, pos, aft, none⟩ :: l) ⟨t, h⟩ K := ⟨.inl ⟨_, AX.mvz hf hx h0 hm (AX.nil rfl), hk.out⟩⟩
theorem AW.mkm {tt : TypeId} {z : Value} (h0 : cl ⟨some d, .makeMap tt none, ty, pos, aft, none⟩ = .wr) (ht : T tt = .mp z) (hk : AW P T M cl ops l ⟨upd t d (.mref (h.tok true)), h.addS true (.map fun _ => none)⟩ K) : AW P T M cl ops (⟨some d, .makeMap tt none, ty, pos, aft, none⟩ :: l) ⟨t, h⟩ K := ⟨.inl ⟨_, AX.mkm h0 ht (AX.nil rfl), hk.out⟩⟩
theorem AW.mup {tt : TypeId} {x y v : Operand} {tk : Nat} {m m' : MF} {kk : Int} {vv z : Value} (hx : evA t x = .mref tk) (hy : evA t y = .sc (.int .i64 kk)) (hv : evA t v = .sc vv) (h0 : cl ⟨none, .mapUpdate tt x y v, ty, pos, aft, none⟩ = .wr) (ht : T tt = .mp z) (hm : h.sp tk = some (.map m)) (hr : (fun y => if y = kk then some vv else m y) = m') (hk : AW P T M cl ops l ⟨t, h.setS tk (.map m')⟩ K) : AW P T M cl ops (⟨none, .mapUpdate tt x y v, ty, pos, aft, none⟩ :: l) ⟨t, h⟩ K := ⟨.inl ⟨_, AX.mup hx hy hv h0 ht hm hr (AX.nil rfl), hk.out⟩⟩
theorem AW.mkmA {tt : TypeId} {z : Value} (tk : Nat) (h0 : cl ⟨some d, .makeMap tt none, ty, pos, aft, none⟩ = .wrM) (ht : T tt = .mp z) (hd : tk % 1024 = d) (hw : h.win tk = true) (hk : AW P T M cl ops l ⟨upd t d (.mref tk), h.putS tk (.map fun _ => none)⟩ K) : AW P T M cl ops (⟨some d, .makeMap tt none, ty, pos, aft, none⟩ :: l) ⟨t, h⟩ K := ⟨.inl ⟨_, AX.mkmA tk h0 ht hd hw (AX.nil rfl), hk.out⟩⟩
theorem AW.insA {tt : TypeId} {x0 : Nat} {y v : Operand} {tk : Nat} {m m' : MF} {kk : Int} {vv z : Value} (hx : evA t (.tmp x0) = .mref tk) (hy : evA t y = .sc (.int .i64 kk)) (hv : evA t v = .sc vv) (h0 : cl ⟨none, .insert tt (.tmp x0) y v, ty, pos, aft, none⟩ = .wrM) (ht : T tt = .mp z) (hd : tk % 1024 = x0) (hm : h.sp tk = some (.map m)) (hn : m kk = none) (hr : (fun y => if y = kk then some vv else m y) = m') (hk : AW P T M cl ops l ⟨t, h.setS tk (.map m')⟩ K) : AW P T M cl ops (⟨none, .insert tt (.tmp x0) y v, ty, pos, aft, none⟩ :: l) ⟨t, h⟩ K := ⟨.inl ⟨_, AX.insA hx hy hv h0 ht hd hm hn hr (AX.nil rfl), hk.out⟩⟩
theorem AW.mlk {tt : TypeId} {x y : Operand} {cm : Bool} {m : MF} {kk : Int} {z : Value} {p : PV} (hx : evA t x = .fmap m) (hy : evA t y = .sc (.int .i64 kk)) (ht : T tt = .mp z) (hr : lkR cm m z kk = p) (hk : AW P T M cl ops l ⟨upd t d p, h⟩ K) : AW P T M cl ops (⟨some d, .lookup tt x y cm, ty, pos, aft, none⟩ :: l) ⟨t, h⟩ K := ⟨.inl ⟨_, AX.mlk hx hy ht hr (AX.nil rfl), hk.out⟩⟩
theorem AW.mlkm {tt : TypeId} {x y : Operand} {cm : Bool} {tk : Nat} {m : MF} {kk : Int} {z : Value} {p : PV} (hx : evA t x = .mref tk) (hy : evA t y = .sc (.int .i64 kk)) (h0 : (cl ⟨some d, .lookup tt x y cm, ty, pos, aft, none⟩).lkp = true) (ht : T tt = .mp z) (hm : h.sp tk = some (.map m)) (hr : lkR cm m z kk = p) (hk : AW P T M cl ops l ⟨upd t d p, h⟩ K) : AW P T M cl ops (⟨some d, .lookup tt x y cm, ty, pos, aft, none⟩ :: l) ⟨t, h⟩ K := ⟨.inl ⟨_, AX.mlkm hx hy h0 ht hm hr (AX.nil rfl), hk.out⟩⟩
theorem AW.rng {tt : TypeId} {x : Operand} {m : MF} {z : Value} (hx : evA t x = .fmap m) (h0 : cl ⟨some d, .range tt x, ty, pos, aft, none⟩ = .wr) (ht : T tt = .mp z) (hk : AW P T M cl ops l ⟨upd t d (.itr (h.tok true)), h.addS true (.iter m [])⟩ K) : AW P T M cl ops (⟨some d, .range tt x, ty, pos, aft, none⟩ :: l) ⟨t, h⟩ K := ⟨.inl ⟨_, AX.rng hx h0 ht (AX.nil rfl), hk.out⟩⟩
theorem AW.ent {x : Operand} {tk : Nat} {m : MF} {pre : List (Int × Value)} {k : Int} {v : Value} (hx : evA t x = .itr tk) (h0 : (cl ⟨some d, .entry x, ty, pos, aft, none⟩).lkp = true) (hm : h.sp tk = some (.iter m (pre ++ [(k, v)]))) (hk : AW P T M cl ops l ⟨upd t d (.tup [.sc (.int .i64 k), .sc v]), h⟩ K) : AW P T M cl ops (⟨some d, .entry x, ty, pos, aft, none⟩ :: l) ⟨t, h⟩ K := ⟨.inl ⟨_, AX.ent hx h0 hm (AX.nil rfl), hk.out⟩⟩
theorem AW.gmk {tt : TypeId} {kk : KT} {zp : PV} (h0 : cl ⟨some d, .makeMap tt none, ty, pos, aft, none⟩ = .wr) (ht : T tt = .gm kk zp) (hk : AW P T M cl ops l ⟨upd t d (.mref (h.tok true)), h.addS true (.gmap kk [] [])⟩ K) : AW P T M cl ops (⟨some d, .makeMap tt none, ty, pos, aft, none⟩ :: l) ⟨t, h⟩ K := ⟨.inl ⟨_, AX.gmk h0 ht (AX.nil rfl), hk.out⟩⟩
theorem AW.gup {tt : TypeId} {x y v : Operand} {tk : Nat} {kk : KT} {zp p : PV} {ks : List (List Int)} {ps : List PV} {key : List Int} (hx : evA t x = .mref tk) (hy : evA t y = kpv kk key) (hv : evA t v = p) (hok : kk.ok key) (h0 : cl ⟨none, .mapUpdate tt x y v, ty, pos, aft, none⟩ = .wr) (ht : T tt = .gm kk zp) (hm : h.sp tk = some (.gmap kk ks ps)) (hk : AW P T M cl ops l ⟨t, h.setS tk (.gmap kk (insK ks key) (insP ks ps key p))⟩ K) : AW P T M cl ops (⟨none, .mapUpdate tt x y v, ty, pos, aft, none⟩ :: l) ⟨t, h⟩ K := ⟨.inl ⟨_, AX.gup hx hy hv hok h0 ht hm (AX.nil rfl), hk.out⟩⟩
theorem AW.glk {tt : TypeId} {x y : Operand} {cm : Bool} {kk : KT} {zp p : PV} {ks : List (List Int)} {ps : List PV} {key : List Int} (hx : evA t x = .gfm kk ks ps) (hy : evA t y = kpv kk key) (hok : kk.ok key) (ht : T tt = .gm kk zp) (hr : lkG cm ks ps zp key = p) (hk : AW P T M cl ops l ⟨upd t d p, h⟩ K) : AW P T M cl ops (⟨some d, .lookup tt x y cm, ty, pos, aft, none⟩ :: l) ⟨t, h⟩ K := ⟨.inl ⟨_, AX.glk hx hy hok ht hr (AX.nil rfl), hk.out⟩⟩
theorem AW.glkm {tt : TypeId} {x y : Operand} {cm : Bool} {tk : Nat} {kk : KT} {zp p : PV} {ks : List (List Int)} {ps : List PV} {key : List Int} (hx : evA t x = .mref tk) (hy : evA t y = kpv kk key) (hok : kk.ok key) (h0 : (cl ⟨some d, .lookup tt x y cm, ty, pos, aft, none⟩).lkp = true) (ht : T tt = .gm kk zp) (hm : h.sp tk = some (.gmap kk ks ps)) (hr : lkG cm ks ps zp key = p) (hk : AW P T M cl ops l ⟨upd t d p, h⟩ K) : AW P T M cl ops (⟨some d, .lookup tt x y cm, ty, pos, aft, none⟩ :: l) ⟨t, h⟩ K := ⟨.inl ⟨_, AX.glkm hx hy hok h0 ht hm hr (AX.nil rfl), hk.out⟩⟩
theorem AW.grng {tt : TypeId} {x : Operand} {kk : KT} {zp : PV} {ks : List (List Int)} {ps : List PV} (hx : evA t x = .gfm kk ks ps) (h0 : cl ⟨some d, .range tt x, ty, pos, aft, none⟩ = .wr) (ht : T tt = .gm kk zp) (hk : AW P T M cl ops l ⟨upd t d (.itr (h.tok true)), h.addS true (.giter kk ks ps [])⟩ K) : AW P T M cl ops (⟨some d, .range tt x, ty, pos, aft, none⟩ :: l) ⟨t, h⟩ K := ⟨.inl ⟨_, AX.grng hx h0 ht (AX.nil rfl), hk.out⟩⟩
theorem AW.gent {x : Operand} {tk : Nat} {kk : KT} {ks : List (List Int)} {ps : List PV} {pre : List Nat} {i : Nat} {p q : PV} (hx : evA t x = .itr tk) (h0 : (cl ⟨some d, .entry x, ty, pos, aft, none⟩).lkp = true) (hm : h.sp tk = some (.giter kk ks ps (pre ++ [i]))) (hi : i < ps.length) (hp : kpv kk (ks.getD i []) = p) (hq : ps.getD i .junk = q) (hk : AW P T M cl ops l ⟨upd t d (.tup [p, q]), h⟩ K) : AW P T M cl ops (⟨some d, .entry x, ty, pos, aft, none⟩ :: l) ⟨t, h⟩ K := ⟨.inl ⟨_, AX.gent hx h0 hm hi hp hq (AX.nil rfl), hk.out⟩⟩
theorem AW.glen {tt : TypeId} {x : Operand} {kk : KT} {zp : PV} {ks : List (List Int)} {ps : List PV} (hx : evA t x = .gfm kk ks ps) (ht : T tt = .gm kk zp) (hk : AW P T M cl ops l ⟨upd t d (.sc (.int .i64 (ks.length : Nat))), h⟩ K) : AW P T M cl ops (⟨some d, .call ⟨.builtin .len, #[x], #[tt]⟩, ty, pos, aft, none⟩ :: l) ⟨t, h⟩ K := ⟨.inl ⟨_, AX.glen hx ht (AX.nil rfl), hk.out⟩⟩
theorem AW.glenm {tt : TypeId} {x : Operand} {tk : Nat} {kk : KT} {zp : PV} {ks : List (List Int)} {ps : List PV} (hx : evA t x = .mref tk) (h0 : (cl ⟨some d, .call ⟨.builtin .len, #[x], #[tt]⟩, ty, pos, aft, none⟩).lkp = true) (ht : T tt = .gm kk zp) (hm : h.sp tk = some (.gmap kk ks ps)) (hk : AW P T M cl ops l ⟨upd t d (.sc (.int .i64 (ks.length : Nat))), h⟩ K) : AW P T M cl ops (⟨some d, .call ⟨.builtin .len, #[x], #[tt]⟩, ty, pos, aft, none⟩ :: l) ⟨t, h⟩ K := ⟨.inl ⟨_, AX.glenm hx h0 ht hm (AX.nil rfl), hk.out⟩⟩
theorem AW.conv {s2 d2 : TypeId} {x : Operand} {vx v : Value} (hx : evA t x = .sc vx) (hr : ∀ w, (convert s2 d2 vx).run P w = .ok v w) (hk : AW P T M cl ops l ⟨upd t d (.sc v), h⟩ K) : AW P T M cl ops (⟨some d, .convert s2 d2 x, ty, pos, aft, none⟩ :: l) ⟨t, h⟩ K := ⟨.inl ⟨_, AX.conv hx hr (AX.nil rfl), hk.out⟩⟩
theorem AW.cpy {tt : TypeId} {x y : Operand} {el sz bs m m2 tk off : Nat} {zc : List Value} {cs cs2 r : List PV} (hx : evA t x = .ref tk off sz m) (h0 : cl ⟨some d, .call ⟨.builtin .copy, #[x, y], #[tt, tt]⟩, ty, pos, aft, none⟩ = .wr ∨ cl ⟨some d, .call ⟨.builtin .copy, #[x, y], #[tt, tt]⟩, ty, pos, aft, none⟩ = .wrS ∧ tk % 2 = 0) (ht : T tt = .sl el sz bs zc) (hb : h.blk tk = some cs) (hn : lenA (evA t y) = some m2) (hy : srcA h (cutA (Min.min m m2) (evA t y)) sz (Min.min m m2) cs2)
    (hl : off + m * sz ≤ cs.length) (h1 : ∀ p ∈ cs2, p.one = true) (hr : cs.take off ++ cs2 ++ cs.drop (off + Min.min m m2 * sz) = r) (hk : AW P T M cl ops l ⟨upd t d (.sc (.int .i64 (Min.min m m2 : Nat))), h.set tk r⟩ K) :
    AW P T M cl ops (⟨some d, .call ⟨.builtin .copy, #[x, y], #[tt, tt]⟩, ty, pos, aft, none⟩ :: l) ⟨t, h⟩ K := ⟨.inl ⟨_, AX.cpy hx h0 ht hb hn hy hl h1 hr (AX.nil rfl), hk.out⟩⟩
theorem AW.nil {s : AS} (hk : K s) : AW P T M cl ops [] s K := ⟨hk⟩
theorem AW.guard {op : Op} {dd : Option Tmp} {g : Nat} {want : Bool} {slot : Nat} {b : Bool} (hg : (ops[g]?).bind (·.dst) = some slot) (hb : t slot = .sc (.bool b)) (hcl : cl ⟨dd, op, ty, pos, aft, some (g, want)⟩ = cl ⟨dd, op, ty, pos, aft, none⟩)
    (h1 : b = want → AW P T M cl ops (⟨dd, op, ty, pos, aft, none⟩ :: l) ⟨t, h⟩ K) (h2 : b ≠ want → AW P T M cl ops l ⟨putA t dd (.sc undef), h⟩ K) : AW P T M cl ops (⟨dd, op, ty, pos, aft, some (g, want)⟩ :: l) ⟨t, h⟩ K := by
  by_cases hw : b = want
  · rcases h1 hw with ⟨⟨s', q1, q2⟩ | ⟨q0, _, q1⟩⟩
    · exact ⟨.inl ⟨s', AX.guard hg hb hcl (fun _ => q1) (fun hn => absurd hw hn), q2⟩⟩
    · exact ⟨.inr ⟨q0, .inr ⟨g, want, slot, rfl, hg, by rw [← hw]; exact hb⟩, q1⟩⟩
  · exact ⟨.inl ⟨_, AX.guard hg hb hcl (fun hh => absurd hh hw) (fun _ => AX.nil rfl), (h2 hw).out⟩⟩
theorem AW.guardU {op : Op} {dd : Option Tmp} {g : Nat} {want : Bool} {slot : Nat} (hg : (ops[g]?).bind (·.dst) = some slot) (hb : t slot = .sc undef) (h2 : AW P T M cl ops l ⟨putA t dd (.sc undef), h⟩ K) : AW P T M cl ops (⟨dd, op, ty, pos, aft, some (g, want)⟩ :: l) ⟨t, h⟩ K := ⟨.inl ⟨_, AX.guardU hg hb (AX.nil rfl), h2.out⟩⟩
theorem AW.guardT {op : Op} {dd : Option Tmp} {g : Nat} {want : Bool} {slot : Nat} {b : Bool} (hg : (ops[g]?).bind (·.dst) = some slot) (hb : t slot = .sc (.bool b)) (hcl : cl ⟨dd, op, ty, pos, aft, some (g, want)⟩ = cl ⟨dd, op, ty, pos, aft, none⟩) (hw : b = want)
    (h1 : AW P T M cl ops (⟨dd, op, ty, pos, aft, none⟩ :: l) ⟨t, h⟩ K) : AW P T M cl ops (⟨dd, op, ty, pos, aft, some (g, want)⟩ :: l) ⟨t, h⟩ K := .guard hg hb hcl (fun _ => h1) (fun hn => absurd hw hn)
theorem AW.guardF {op : Op} {dd : Option Tmp} {g : Nat} {want : Bool} {slot : Nat} {b : Bool} (hg : (ops[g]?).bind (·.dst) = some slot) (hb : t slot = .sc (.bool b)) (hcl : cl ⟨dd, op, ty, pos, aft, some (g, want)⟩ = cl ⟨dd, op, ty, pos, aft, none⟩) (hw : b = !want)
    (h2 : AW P T M cl ops l ⟨putA t dd (.sc undef), h⟩ K) : AW P T M cl ops (⟨dd, op, ty, pos, aft, some (g, want)⟩ :: l) ⟨t, h⟩ K := .guard hg hb hcl (fun hh => by rw [hw] at hh; cases want <;> cases hh) (fun _ => h2)
theorem CW.seq {x y : Code} {s : AS} (hk : CW P T M n x s (TQ (fun s' => CW P T M n y s' Q) Q)) : CW P T M n (.seq x y) s Q := by
  refine ⟨fun h1 h2 h3 => ?_⟩
  simp only [codeOk, Bool.and_eq_true] at h3
  refine .seq (.mono (hk.out h1 h2 h3.1) (fun e s h => ?_))
  have := h.out
  cases e <;> first | exact CW.out this h1 h2 h3.2 | exact this
theorem CW.block {id : Nat} {c : Code} {s : AS} (hk : CW P T M n c s (BQ id Q)) : CW P T M n (.block id c) s Q := ⟨fun h1 h2 h3 => .block (.mono (hk.out h1 h2 h3) (fun e s h => h.out))⟩
theorem CW.cond {c : Operand} {x y : Code} {b : Bool} (hc : evA t c = .sc (.bool b)) (g1 : b = true → CW P T M n x ⟨t, h⟩ Q) (g2 : b = false → CW P T M n y ⟨t, h⟩ Q) : CW P T M n (.cond c x y) ⟨t, h⟩ Q := by
  refine ⟨fun h1 h2 h3 => ?_⟩
  simp only [codeOk, Bool.and_eq_true] at h3
  exact .cond hc (fun e => (g1 e).out h1 h2 h3.1) (fun e => (g2 e).out h1 h2 h3.2)
theorem CW.condT {c : Operand} {x y : Code} {b : Bool} (hc : evA t c = .sc (.bool b)) (hb : b = true) (h1 : CW P T M n x ⟨t, h⟩ Q) : CW P T M n (.cond c x y) ⟨t, h⟩ Q := .cond hc (fun _ => h1) (fun e => by rw [hb] at e; cases e)
theorem CW.condF {c : Operand} {x y : Code} {b : Bool} (hc : evA t c = .sc (.bool b)) (hb : b = false) (h1 : CW P T M n y ⟨t, h⟩ Q) : CW P T M n (.cond c x y) ⟨t, h⟩ Q := .cond hc (fun e => by rw [hb] at e; cases e) (fun _ => h1)
theorem CW.region {id : Nat} {o : List Oper} {s : AS} (hk : AW P T M (fun _ => .wr) o.toArray o s (Q .normal)) : CW P T M n (.region id o.toArray false) s Q := by
  refine ⟨fun h1 h2 h3 => ?_⟩
  simp only [codeOk, Bool.and_eq_true] at h3
  intro E w0 Z0 ρ a w R F hF m
  exact wpIn_region_list (AD_list hF h1 (Q .normal) (fun ρ s a w R' hk => ⟨ρ, s, R', hk⟩) _ ρ s a w h3.1 (by simpa using hk.out) R)
theorem CW.regionD {id : Nat} {o : List Oper} {s : AS} (hk : AW P T M (clsOf M) o.toArray o s (Q .normal)) : CW P T M n (.region id o.toArray true) s Q := by
  refine ⟨fun h1 h2 h3 => ?_⟩
  simp only [codeOk, Bool.and_eq_true, Bool.or_eq_true, Bool.not_eq_true'] at h3
  exact .regionD h2 (h3.2.resolve_left (by simp)) (AD_sound h1 (fun hc => by have := congrFun hc ⟨none, .load 0 (.const undef), 0, "", #[], none⟩; simp [clsOf, inL] at this) _ _ h3.1 (by simpa using hk.out))
theorem CW.skip {s : AS} (hk : Q .normal s) : CW P T M n .skip s Q := ⟨fun _ _ _ => .skip hk⟩
theorem CW.exit {s : AS} {id : Nat} (hk : Q (.exit id) s) : CW P T M n (.exit id) s Q := ⟨fun _ _ _ => .exit hk⟩
theorem CW.ret {s : AS} (hk : Q .ret s) : CW P T M n .ret s Q := ⟨fun _ _ _ => .ret hk⟩
theorem CW.loop {ι : Type} {c : Code} {s : AS} (I : ι → AS → Prop) (μ : ι → Nat) (i0 : ι) (h0 : I i0 s)
    (round : ∀ i s, I i s → CW P T M n c s (TQ (fun s' => ∃ j, I j s' ∧ μ j < μ i) Q)) : CW P T M n (.loop c) s Q :=
  ⟨fun h1 h2 h3 => AWP.loop I μ i0 h0 (fun i s hi => .mono ((round i s hi).out h1 h2 h3) (fun e s h => h.out))⟩
theorem CW.own {c : Code} (d sz : Nat) {sz' : Nat} (hd : t d = .lst true sz' 0 []) (hk : CW P T M n c ⟨upd t d (.ref (h.tok false) 0 sz 0), h.add false []⟩ Q) : CW P T M n c ⟨t, h⟩ Q :=
  ⟨fun h1 h2 h3 => AWP.own (d := d) sz hd (hk.out h1 h2 h3)⟩
theorem CW.freeze {c : Code} (d : Nat) {tk off sz m : Nat} {cs : List PV} {v : PV} (hd : t d = .ref tk off sz m) (hb : h.blk tk = some cs) (hl : off + m * sz ≤ cs.length) (hv : PV.lst false sz m ((cs.drop off).take (m * sz)) = v) (hk : CW P T M n c ⟨upd t d v, h.kill tk⟩ Q) : CW P T M n c ⟨t, h⟩ Q :=
  ⟨fun h1 h2 h3 => AWP.freeze (d := d) hd hb hl (by rw [hv]; exact hk.out h1 h2 h3)⟩
theorem CW.bump {c : Code} (k : Nat) (hk : CW P T M n c ⟨t, h.bump k⟩ Q) : CW P T M n c ⟨t, h⟩ Q :=
  ⟨fun h1 h2 h3 => AWP.bump k (hk.out h1 h2 h3)⟩
theorem CW.freezeP {c : Code} (d : Nat) {tk : Nat} {cs : List PV} (hd : t d = .ptr tk 0) (hb : h.blk tk = some cs) (hk : CW P T M n c ⟨upd t d (.lptr cs), h.kill tk⟩ Q) : CW P T M n c ⟨t, h⟩ Q :=
  ⟨fun h1 h2 h3 => AWP.freezeP (d := d) hd hb (hk.out h1 h2 h3)⟩
theorem TQ.nm {next : AS → Prop} {s : AS} (hk : next s) : TQ next Q .normal s := ⟨hk⟩
theorem TQ.r {next : AS → Prop} {s : AS} (hk : Q .ret s) : TQ next Q .ret s := ⟨hk⟩
theorem TQ.e {next : AS → Prop} {s : AS} {id : Nat} (hk : Q (.exit id) s) : TQ next Q (.exit id) s := ⟨hk⟩
theorem BQ.nm {id : Nat} {s : AS} (hk : Q .normal s) : BQ id Q .normal s := ⟨hk⟩
theorem BQ.r {id : Nat} {s : AS} (hk : Q .ret s) : BQ id Q .ret s := ⟨hk⟩
theorem BQ.e {id : Nat} {s : AS} (hk : Q .normal s) : BQ id Q (.exit id) s := ⟨⟨fun _ => hk, fun hh => absurd rfl hh⟩⟩
theorem BQ.o {id id' : Nat} {s : AS} (hne : Nat.beq id' id = false) (hk : Q (.exit id') s) : BQ id Q (.exit id') s := ⟨⟨fun hh => by subst hh; rw [Nat.beq_refl] at hne; (cases hne), fun _ => hk⟩⟩
def argT (args : List PV) : Nat → PV := fun t => args.getD t .junk
def H0 : HP := ⟨fun _ => none, 0, fun _ => none, fun _ => false⟩
theorem SC.walk {f : FuncId} {fn : Func} {c : Code} {args : List PV} {r : PV} (M : Hn) (hT : TOk P T) (hm : P.follows .mixedOrders = true) (hf : P.funcs[f]? = some fn) (hn : (fn.name == "runtime.NumGoroutine") = false) (hb : fn.body = some c) (hnt : fn.ntmps = n)
    (hk : Nat.ble args.length n = true) (hr : Nat.ble 0 n = true) (hc : codeOk M n c = true)
    (h : CW P T M n c ⟨argT args, H0⟩ (fun e s' => (e = .normal ∨ e = .ret) ∧ FzRes T s' fn.results.toList r)) : SC P f args r := by
  subst hnt
  exact SC.of hT hf hn hb (Nat.le_of_ble_eq_true hk) (h.out hT hm hc)
theorem SChE.walk {f : FuncId} {fn : Func} {c : Code} {args : List PV} {Q0 : PV → HP → Prop} (M : Hn) (hT : TOk P T) (hm : P.follows .mixedOrders = true) (hf : P.funcs[f]? = some fn) (hn : (fn.name == "runtime.NumGoroutine") = false) (hb : fn.body = some c) (hnt : fn.ntmps = n)
    (hk : Nat.ble args.length n = true) (hr : Nat.ble 0 n = true) (hc : codeOk M n c = true)
    (hw : h.Wf → CW P T M n c ⟨argT args, h⟩ (fun e s' => (e = .normal ∨ e = .ret) ∧ ∃ ps, retC T s' fn.results.toList ps ∧ Q0 (packP ps) s'.hp)) : SChE P f args h Q0 := by
  subst hnt
  exact SChE.of hT hf hn hb (Nat.le_of_ble_eq_true hk) (fun hf => (hw hf).out hT hm hc)
theorem SCo.walk {f : FuncId} {fn : Func} {c : Code} {args : List PV} {sz m : Nat} {cs : List PV} (M : Hn) (hT : TOk P T) (hm : P.follows .mixedOrders = true) (hf : P.funcs[f]? = some fn) (hn : (fn.name == "runtime.NumGoroutine") = false) (hb : fn.body = some c) (hnt : fn.ntmps = n)
    (hk : Nat.ble args.length n = true) (hr : resOk n fn.results.toList = true) (hc : codeOk M n c = true)
    (h : CW P T M n c ⟨argT args, H0⟩ (fun e s' => (e = .normal ∨ e = .ret) ∧ Ow s'.hp (retPV s' fn.results.toList) sz m cs)) : SCo P f args sz m cs := by
  subst hnt
  exact SCo.of hT hf hn hb (Nat.le_of_ble_eq_true hk) hr (h.out hT hm hc)
end Go.Proofs.YtkmkcbkfakoomaaDoor
