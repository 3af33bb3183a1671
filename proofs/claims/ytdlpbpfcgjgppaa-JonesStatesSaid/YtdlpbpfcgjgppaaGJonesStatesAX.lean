/- Facts and contracts that the claim uses. No condition of its own. -/
import Derived.Test.YtdlpbpfcgjgppaaGJonesStatesAW
set_option linter.unusedVariables false
set_option linter.unusedSimpArgs false
namespace Go.Proofs.Ytdlpbpfcgjgppaa
open Go.RowKit
def tm (l : List PV) : Nat → PV := fun t => l.getD t .junk
def dn (l : List PV) (h : EH) : AS := ⟨tm l, h.hp⟩
def ptE (l : List PV) (d : Option Tmp) (v : PV) : Option (List PV) :=
  match d with
  | none => some l
  | some d => bif Nat.blt d l.length then some (l.set d v) else none
theorem tm_set {l : List PV} {d : Nat} {v : PV} (hd : d < l.length) : upd (tm l) d v = tm (l.set d v) := by
  funext t
  unfold upd tm
  by_cases h : t = d
  · subst h; simp [hd]
  · rw [if_neg h]; simp [List.getD, List.getElem?_set_ne (Ne.symm h)]
theorem ptE_s {l l' : List PV} {d : Option Tmp} {v : PV} (h : ptE l d v = some l') : putA (tm l) d v = tm l' ∧ l'.length = l.length := by
  unfold ptE at h
  split at h
  · cases h; exact ⟨rfl, rfl⟩
  · obtain ⟨h1, h2⟩ := cond_some h; cases h2
    exact ⟨tm_set (by simpa [Nat.blt_eq] using h1), by simp⟩
structure Cal where
  imp : FuncId → List PV → EH → Option (PV × EH)
  pur : FuncId → List PV → Option PV
  own : FuncId → List PV → Option (Nat × Nat × List PV)
  mt : FuncId → List Int → List Value → Option (List Int)
structure CalOk (P : Program) (C : Cal) : Prop where
  imp : ∀ f args h r h', C.imp f args h = some (r, h') → SChE P f args h.hp (fun r' hp => r' = r ∧ hp = h'.hp)
  pur : ∀ f args r, C.pur f args = some r → SC P f args r
  own : ∀ f args sz n cs, C.own f args = some (sz, n, cs) → SCo P f args sz n cs
  mt : ∀ f zs us ys, C.mt f zs us = some ys → SCm P f zs us ys
def unI : List PV → Option (List Int)
  | [] => some []
  | .sc (.int .i64 z) :: l => (unI l).map (z :: ·)
  | _ :: _ => none
theorem unI_s : ∀ {l : List PV} {zs : List Int}, unI l = some zs → l = zs.map (fun z => .sc (.int .i64 z))
  | [], _, h => by cases h; rfl
  | p :: l, zs, h => by
    unfold unI at h
    split at h
    · next e => cases e
    · rename_i z l' e
      cases e
      cases hl : unI l with
      | none => rw [hl] at h; cases h
      | some z2 => rw [hl] at h; cases h; rw [unI_s hl]; rfl
    · cases h
def unS : List PV → Option (List Value)
  | [] => some []
  | .sc z :: l => (unS l).map (z :: ·)
  | _ :: _ => none
theorem unS_s : ∀ {l : List PV} {zs : List Value}, unS l = some zs → l = zs.map .sc
  | [], _, h => by cases h; rfl
  | p :: l, zs, h => by
    unfold unS at h
    split at h
    · next e => cases e
    · rename_i z l' e
      cases e
      cases hl : unS l with
      | none => rw [hl] at h; cases h
      | some z2 => rw [hl] at h; cases h; rw [unS_s hl]; rfl
    · cases h
def mtE (C : Cal) (c : Cls) (h : EH) (f : FuncId) (args : List PV) : Option (PV × EH) :=
  match args with
  | .ref tk off 1 n :: rest => match lkH h.bl tk with
    | some cs => match unI ((cs.drop off).take n) with
      | some zs => match unS rest with
        | some us => match C.mt f zs us with
          | some ys => bif wrO c tk && Nat.beq zs.length n && Nat.blt 0 zs.length then some (.ref tk off 1 ys.length, h.set tk (List.replicate off .junk ++ ys.map fun y => .sc (.int .i64 y))) else none
          | none => none
        | none => none
      | none => none
    | none => none
  | _ => none
def bwE (h : EH) : PV → PV
  | .ref t off sz n => match lkH h.bl t with
    | some cs => bif Nat.ble (off + n * sz) cs.length then .lst false sz n ((cs.drop off).take (n * sz)) else .junk
    | none => .junk
  | .mref _ => .junk
  | p => p
theorem bwE_s (h : EH) (p : PV) : bw h.hp p = bwE h p := by
  cases p <;> try rfl
  rename_i t off sz n
  unfold bw bwE
  simp only [EH.hp_blk]
  cases lkH h.bl t with
  | none => rfl
  | some cs =>
    simp only
    cases hb : Nat.ble (off + n * sz) cs.length
    · rw [if_neg (fun h => by rw [Nat.ble_eq_true_of_le h] at hb; cases hb)]; rfl
    · rw [if_pos (Nat.le_of_ble_eq_true hb)]; rfl
def callD (C : Cal) (c : Cls) (e : Operand → PV) (h : EH) (y : Operand) (args : List PV) : Option (PV × EH) :=
  match y with
  | .func f => match mtE C c h f args with
    | some r => some r
    | none => bif nwO c then
        (bif PV.cl.clL args then match C.own f args with
          | some (sz, n, cs) => some (.ref (h.tok false) 0 sz n, h.add false cs)
          | none => none
        else bif PV.cl.clL (args.map (bwE h)) then match C.own f (args.map (bwE h)) with
          | some (sz, n, cs) => bif cs.all PV.bare then some (.ref (h.tok false) 0 sz n, h.add false cs) else none
          | none => none
        else none)
      else bif PV.cl.clL args then (C.pur f args).map (·, h)
      else bif r3O c && PV.cl.clL (args.map (bwE h)) then match C.pur f (args.map (bwE h)) with
        | some r => bif r.flat then some (r, h) else none
        | none => none
      else none
  | .tmp y => match e (.tmp y) with
    | .clo f cap => bif PV.cl.clL (args ++ cap) then (C.pur f (args ++ cap)).map (·, h) else none
    | _ => none
  | _ => none
theorem map_bwE (h : EH) (args : List PV) : args.map (bw h.hp) = args.map (bwE h) := List.map_congr_left (fun p _ => bwE_s h p)
theorem callD_s {P : Program} {T : TypeId → TI} {C : Cal} (hC : CalOk P C) {c : Cls} {e : Operand → PV} {h h' : EH} {y : Operand} {xs : Array Operand} {ats : Array TypeId} {v : PV} {k : PV → HP → Prop} (he : callD C c e h y (xs.toList.map e) = some (v, h')) (hk : k v h'.hp) : callX P T c e h.hp k ⟨.value y, xs, ats⟩ := by
  unfold callD at he
  unfold callX
  split at he
  · rename_i f
    split at he
    · rename_i r hr
      cases he
      refine .inl ?_
      unfold mtE at hr
      split at hr
      · rename_i tk off n rest hargs
        split at hr
        · rename_i cs hb
          split at hr
          · rename_i zs hz
            split at hr
            · rename_i us hu
              split at hr
              · rename_i ys hy
                obtain ⟨h1, h2⟩ := cond_some hr
                cases h2
                simp only [Bool.and_eq_true, Nat.beq_eq, Nat.blt_eq] at h1
                obtain ⟨⟨h3, h4⟩, h5⟩ := h1
                subst h4
                obtain ⟨x, rs, hxs, hx, hrs⟩ : ∃ x rs, xs.toList = x :: rs ∧ e x = .ref tk off 1 zs.length ∧ rs.map e = rest := by
                  cases hl : xs.toList with
                  | nil => rw [hl] at hargs; cases hargs
                  | cons x rs => rw [hl] at hargs; simp only [List.map_cons, List.cons.injEq] at hargs; exact ⟨x, rs, rfl, hargs.1, hargs.2⟩
                rw [EH.hp_set] at hk
                exact ⟨x, rs, tk, off, cs, zs, us, ys, wrO_s h3, hxs, hx, hb, unI_s hz, h5, hrs.trans (unS_s hu), hC.mt _ _ _ _ hy, hk⟩
              · cases hr
            · cases hr
          · cases hr
        · cases hr
      · cases hr
    refine .inr ?_
    cases hc : nwO c
    · rw [hc] at he
      simp only [cond_false] at he
      refine .inr (.inl ?_)
      cases h1 : PV.cl.clL (xs.toList.map e)
      · rw [h1] at he
        simp only [cond_false] at he
        obtain ⟨h2, h3⟩ := cond_some he
        rw [Bool.and_eq_true] at h2
        split at h3
        · rename_i r hr
          obtain ⟨h4, h5⟩ := cond_some h3
          simp only [Option.some.injEq, Prod.mk.injEq] at h5
          obtain ⟨rfl, rfl⟩ := h5
          refine ⟨r, .inr ⟨r3O_s h2.1, by rw [map_bwE]; exact h2.2, by rw [map_bwE]; exact hC.pur _ _ _ hr, h4⟩, hk⟩
        · cases h3
      · rw [h1] at he
        simp only [cond_true] at he
        obtain ⟨h2, rfl⟩ := map_pair he
        exact ⟨v, .inl ⟨h1, hC.pur _ _ _ h2⟩, hk⟩
    · rw [hc] at he
      simp only [cond_true] at he
      refine .inl ?_
      cases h1 : PV.cl.clL (xs.toList.map e)
      · rw [h1] at he
        simp only [cond_false] at he
        obtain ⟨h2, h3⟩ := cond_some he
        split at h3
        · rename_i sz n cs hr
          obtain ⟨h4, h5⟩ := cond_some h3
          simp only [Option.some.injEq, Prod.mk.injEq] at h5
          obtain ⟨rfl, rfl⟩ := h5
          rw [EH.hp_add] at hk
          exact ⟨sz, n, cs, nwO_s hc, .inr ⟨by rw [map_bwE]; exact h2, by rw [map_bwE]; exact hC.own _ _ _ _ _ hr, h4⟩, by rw [EH.hp_tok]; exact hk⟩
        · cases h3
      · rw [h1] at he
        simp only [cond_true] at he
        split at he
        · rename_i sz n cs hr
          simp only [Option.some.injEq, Prod.mk.injEq] at he
          obtain ⟨rfl, rfl⟩ := he
          rw [EH.hp_add] at hk
          exact ⟨sz, n, cs, nwO_s hc, .inl ⟨h1, hC.own _ _ _ _ _ hr⟩, by rw [EH.hp_tok]; exact hk⟩
        · cases he
  · split at he
    · rename_i f cap hy
      obtain ⟨h1, h2⟩ := cond_some he
      obtain ⟨h3, rfl⟩ := map_pair h2
      simp only [hy]
      exact ⟨v, h1, hC.pur _ _ _ h3, hk⟩
    · cases he
  · cases he
def gdE (ops : Array Oper) (o : Oper) (l : List PV) : Option Bool :=
  match o.guard with
  | none => some true
  | some (j, want) => match (ops[j]?).bind (·.dst) with
    | some t => match tm l t with
      | .sc (.bool b) => some (b == want)
      | .sc _ => some false
      | _ => none
    | none => none
inductive Kind where
  | imp (f : FuncId) (args : List PV) (y : Operand) (as0 : List PV)
  | drw (y : Operand) (args : List PV)
  | clr (x : Operand) (t : TypeId)
  | oth
def kindE (un : Bool) (e : Operand → PV) (o : Oper) : Kind :=
  match o.op with
  | .call ⟨.value y, xs, _⟩ => bif un then (match e y with
    | .clo f cap => .imp f (xs.toList.map e ++ cap) y (xs.toList.map e)
    | _ => .oth) else .drw y (xs.toList.map e)
  | .call ⟨.builtin .clear, ⟨[x]⟩, ⟨[t]⟩⟩ => bif un then .clr x t else .oth
  | _ => .oth
def clE (T : TypeId → TI) (h : EH) (d : Option Tmp) (x : PV) (t : TypeId) : Option (PV × EH) :=
  match d with
  | some _ => none
  | none => match x with
    | .ref tk off sz m => match T t with
      | .sl _ 1 _ [z] => match lkH h.bl tk with
        | some cs => bif Nat.beq sz 1 && Nat.ble (off + m) cs.length && z.oneCell' then some (.junk, h.set tk (cs.take off ++ List.replicate m (ofConst.ofCell z) ++ cs.drop (off + m))) else none
        | none => none
      | _ => none
    | _ => none
def stepE (T : TypeId → TI) (M : Hn) (C : Cal) (un : Bool) (c : Cls) (l : List PV) (o : Oper) (h : EH) : Option (PV × EH) :=
  match kindE un (evA (tm l)) o with
  | .imp f args y as0 => match C.imp f args h with
    | some r => some r
    | none => callD C c (evA (tm l)) h y as0
  | .drw y args => callD C c (evA (tm l)) h y args
  | .clr x t => clE T h o.dst (evA (tm l) x) t
  | .oth => dE T M c (evA (tm l)) o h
def evL (T : TypeId → TI) (M : Hn) (C : Cal) (un : Bool) (ops : Array Oper) : List Oper → List PV → EH → Option (List PV × EH)
  | [], l, h => some (l, h)
  | o :: r, l, h => match gdE ops o l with
    | some true => match stepE T M C un (bif un then .wr else clsOf M o) l o h with
      | some (v, h') => match ptE l o.dst v with
        | some l' => evL T M C un ops r l' h'
        | none => none
      | none => none
    | some false => match ptE l o.dst (.sc undef) with
      | some l' => evL T M C un ops r l' h
      | none => none
    | none => none
def clU (M : Hn) (un : Bool) : Oper → Cls := match un with
  | true => fun _ => .wr
  | false => clsOf M
theorem clU_at (M : Hn) (un : Bool) (o : Oper) : (bif un then Cls.wr else clsOf M o) = clU M un o := by cases un <;> rfl
variable {P : Program} {T : TypeId → TI} {M : Hn} {C : Cal}
theorem gd_gx {ops : Array Oper} {o : Oper} {l : List PV} {h h' : EH} {c : Cls} {v : PV} {k : PV → HP → Prop} (hg : gdE ops o l = some true) (hd : DX P T M c (evA (tm l)) o h.hp k) : GX P T M c ops o (dn l h) k := by
  unfold gdE at hg
  unfold GX
  split at hg
  · rename_i e; simp only [e]; exact hd
  · rename_i j want e
    split at hg
    · rename_i t e2
      simp only [e, e2]
      have h3 : (dn l h).tmps t = tm l t := rfl
      split at hg
      · rename_i b e3
        rw [h3, e3]
        have : b = want := by simpa using hg
        subst this
        exact ⟨fun _ => hd, fun hn => absurd rfl hn⟩
      · cases hg
      · cases hg
    · cases hg
theorem gd_skip {ops : Array Oper} {o : Oper} {l : List PV} {h : EH} {c : Cls} {k : PV → HP → Prop} (hg : gdE ops o l = some false) (hk : k (.sc undef) h.hp) : GX P T M c ops o (dn l h) k := by
  unfold gdE at hg
  unfold GX
  split at hg
  · cases hg
  · rename_i j want e
    split at hg
    · rename_i t e2
      simp only [e, e2]
      have h3 : (dn l h).tmps t = tm l t := rfl
      split at hg
      · rename_i b e3
        rw [h3, e3]
        have : ¬ b = want := by simpa using hg
        exact ⟨fun hh => absurd hh this, fun _ => hk⟩
      · rename_i v hv e3
        rw [h3, e3]
        simp only [scX]
        exact hk
      · cases hg
    · cases hg
theorem gd_ok {ops : Array Oper} {o : Oper} {l : List PV} {h : EH} (hg : gdE ops o l = some true) : guardOk ops o (dn l h) := by
  unfold gdE at hg
  split at hg
  · rename_i e; exact .inl e
  · rename_i j want e
    split at hg
    · rename_i t e2
      split at hg
      · rename_i b e3
        have : b = want := by simpa using hg
        subst this
        exact .inr ⟨j, b, t, e, e2, e3⟩
      · cases hg
      · cases hg
    · cases hg
theorem kind_imp {un : Bool} {e : Operand → PV} {o : Oper} {f : FuncId} {args as0 : List PV} {y : Operand} (h : kindE un e o = .imp f args y as0) : un = true ∧ ∃ xs ats cap, o.op = .call ⟨.value y, xs, ats⟩ ∧ e y = .clo f cap ∧ args = xs.toList.map e ++ cap ∧ as0 = xs.toList.map e := by
  unfold kindE at h
  split at h
  · rename_i y xs ats e1
    cases un with
    | true =>
      simp only [cond_true] at h
      split at h
      · rename_i f' cap e2
        cases h
        exact ⟨rfl, xs, ats, cap, e1, e2, rfl, rfl⟩
      · cases h
    | false => simp at h
  · cases un <;> simp at h
  · cases h
theorem kind_drw {un : Bool} {e : Operand → PV} {o : Oper} {y : Operand} {args : List PV} (h : kindE un e o = .drw y args) : ∃ xs ats, o.op = .call ⟨.value y, xs, ats⟩ ∧ args = xs.toList.map e := by
  unfold kindE at h
  split at h
  · rename_i y xs ats e1
    cases un with
    | true =>
      simp only [cond_true] at h
      split at h <;> cases h
    | false =>
      simp only [cond_false, Kind.drw.injEq] at h
      obtain ⟨rfl, rfl⟩ := h
      exact ⟨xs, ats, e1, rfl⟩
  · cases un <;> simp at h
  · cases h
theorem kind_clr {un : Bool} {e : Operand → PV} {o : Oper} {x : Operand} {t : TypeId} (h : kindE un e o = .clr x t) : un = true ∧ o.op = .call ⟨.builtin .clear, #[x], #[t]⟩ := by
  unfold kindE at h
  split at h
  · cases un with
    | true =>
      simp only [cond_true] at h
      split at h <;> cases h
    | false => simp at h
  · rename_i e1
    cases un with
    | true => simp only [cond_true, Kind.clr.injEq] at h; obtain ⟨rfl, rfl⟩ := h; exact ⟨rfl, e1⟩
    | false => simp at h
  · cases h
theorem clE_s {o : Oper} {l : List PV} {h h' : EH} {x : Operand} {t : TypeId} {v : PV} (ho : o.op = .call ⟨.builtin .clear, #[x], #[t]⟩) (he : clE T h o.dst (evA (tm l) x) t = some (v, h')) {ops : Array Oper} {r : List Oper} {K : AS → Prop} (hg : guardOk ops o (dn l h)) (hk : AD P T M (fun _ => .wr) ops r ⟨tm l, h'.hp⟩ K) : o.dst = none ∧ AD P T M (fun _ => .wr) ops (o :: r) (dn l h) K := by
  unfold clE at he
  split at he
  · cases he
  · rename_i hd
    refine ⟨hd, ?_⟩
    split at he
    · rename_i tk off sz m hx
      split at he
      · rename_i el bs z hT
        split at he
        · rename_i cs hb
          obtain ⟨h1, h2⟩ := cond_some he
          simp only [Option.some.injEq, Prod.mk.injEq] at h2
          obtain ⟨rfl, rfl⟩ := h2
          simp only [Bool.and_eq_true] at h1
          have hsz := Nat.eq_of_beq_eq_true h1.1.1
          subst hsz
          rw [EH.hp_set] at hk
          have key := AW.clr (P := P) (T := T) (M := M) (t := tm l) (h := h.hp) (cl := fun _ => Cls.wr) (ops := ops) (l := r) (K := K) (ty := o.type) (pos := o.pos) (aft := o.after) hx hT rfl hb (Nat.le_of_ble_eq_true h1.1.2) h1.2 ⟨hk⟩
          rcases key.out with ⟨s', q1, q2⟩ | ⟨q1, q2, q3, q4⟩
          · exfalso
            unfold AX at q1
            simp only [GX, DX, callX, biX, List.map_cons, List.map_nil] at q1
          · refine .inr ⟨rfl, hg, (fun c hc => by rw [ho] at hc; cases hc), fun hTok => ?_⟩
            have := q4 hTok
            obtain ⟨od, oop, oty, opos, oaft, og⟩ := o
            simp only at ho hd
            subst ho hd
            exact this
        · cases he
      · cases he
    · cases he
theorem evL_s (hC : CalOk P C) {un : Bool} {ops : Array Oper} {K : AS → Prop} : ∀ (r : List Oper) (l : List PV) (h : EH) (l' : List PV) (h' : EH), evL T M C un ops r l h = some (l', h') → K (dn l' h') → AD P T M (clU M un) ops r (dn l h) K ∧ l'.length = l.length
  | [], l, h, l', h', he, hk => by
    simp only [evL, Option.some.injEq, Prod.mk.injEq] at he
    obtain ⟨rfl, rfl⟩ := he
    exact ⟨hk, rfl⟩
  | o :: r, l, h, l', h', he, hk => by
    simp only [evL] at he
    split at he
    · rename_i hg
      split at he
      · rename_i v h1 hs
        split at he
        · rename_i l1 hp
          obtain ⟨p1, p2⟩ := ptE_s hp
          obtain ⟨ih, il⟩ := evL_s hC r l1 h1 l' h' he hk
          have ih' : AD P T M (clU M un) ops r ⟨putA (tm l) o.dst v, h1.hp⟩ K := by rw [p1]; exact ih
          refine ⟨?_, il.trans p2⟩
          rw [clU_at] at hs
          unfold stepE at hs
          split at hs
          · rename_i f args y as0 hkd
            obtain ⟨hun, xs, ats, cap, ho, hy, rfl, rfl⟩ := kind_imp hkd
            subst hun
            split at hs
            · rename_i r0 hi
              simp only [Option.some.injEq] at hs
              subst hs
              refine .inr ⟨rfl, gd_ok hg, (fun c hc => by rw [ho] at hc; cases hc), fun _ => ?_⟩
              refine .callv ho hy ((hC.imp _ _ _ _ _ hi).mono ?_)
              rintro r' hp' ⟨rfl, rfl⟩
              exact ih'
            · refine .inl ⟨_, ?_, ih'⟩
              unfold AX
              refine gd_gx (h' := h1) (v := v) hg ?_
              unfold DX
              simp only [ho]
              exact callD_s hC hs rfl
          · rename_i y args hkd
            obtain ⟨xs, ats, ho, rfl⟩ := kind_drw hkd
            refine .inl ⟨_, ?_, ih'⟩
            unfold AX
            refine gd_gx (h' := h1) (v := v) hg ?_
            unfold DX
            simp only [ho]
            exact callD_s hC hs rfl
          · rename_i x t hkd
            obtain ⟨hun, ho⟩ := kind_clr hkd
            subst hun
            have hd : o.dst = none := by
              unfold clE at hs
              split at hs
              · cases hs
              · assumption
            refine (clE_s (M := M) ho hs (gd_ok hg) ?_).2
            rw [hd] at ih'
            exact ih'
          · refine .inl ⟨_, ?_, ih'⟩
            unfold AX
            exact gd_gx (h' := h1) (v := v) hg (dE_s hs rfl)
        · cases he
      · cases he
    · rename_i hg
      split at he
      · rename_i l1 hp
        obtain ⟨p1, p2⟩ := ptE_s hp
        obtain ⟨ih, il⟩ := evL_s hC r l1 h l' h' he hk
        have ih' : AD P T M (clU M un) ops r ⟨putA (tm l) o.dst (.sc undef), h.hp⟩ K := by rw [p1]; exact ih
        refine ⟨.inl ⟨_, ?_, ih'⟩, il.trans p2⟩
        unfold AX
        exact gd_skip hg rfl
      · cases he
    · cases he
def midT (T : TypeId → TI) (M : Hn) (C : Cal) (ops : Array Oper) (l : List PV) (h : EH) (m : Nat) : Option (List PV × EH) :=
  match ops.toList[m]? with
  | none => none
  | some x => bif x.guard.isNone && midOk ops m then (match evL T M C false ops (ops.toList.take m) l h with
    | none => none
    | some (l1, h1) => match kindE true (evA (tm l1)) x with
      | .imp f args _ _ => match C.imp f args h1 with
        | some (v, h2) => match x.dst with
          | some d => bif Nat.blt d l1.length then evL T M C false ops (ops.toList.drop (m + 1)) (l1.set d v) h2 else none
          | none => none
        | none => none
      | _ => none) else none
def isCallE (ops : Array Oper) (m : Nat) : Bool := match ops[m]? with
  | some o => match o.op with
    | .call ⟨.value _, _, _⟩ => true
    | _ => false
  | none => false
def midE (T : TypeId → TI) (M : Hn) (C : Cal) (ops : Array Oper) (l : List PV) (h : EH) : Option (List PV × EH) :=
  ((List.range ops.size).filter (isCallE ops)).findSome? (midT T M C ops l h)
theorem midE_s (hC : CalOk P C) {ops : Array Oper} {l l' : List PV} {h h' : EH} {id : Nat} {Q : Exit → AS → Prop} (he : midE T M C ops l h = some (l', h')) (hQ : Q .normal (dn l' h')) : l'.length = l.length ∧ CW P T M l.length (.region id ops true) (dn l h) Q := by
  obtain ⟨m, _, hm⟩ := List.exists_of_findSome?_eq_some he
  unfold midT at hm
  split at hm
  · cases hm
  · rename_i x hx
    obtain ⟨h1, h2⟩ := cond_some hm
    rw [Bool.and_eq_true, Option.isNone_iff_eq_none] at h1
    split at h2
    · cases h2
    · rename_i l1 hh1 he1
      split at h2
      · rename_i f args y as0 hkd
        obtain ⟨_, xs, ats, cap, ho, hy, rfl, rfl⟩ := kind_imp hkd
        split at h2
        · rename_i v hh2 hi
          split at h2
          · rename_i d hd
            obtain ⟨h3, h4⟩ := cond_some h2
            have hdl : d < l1.length := by simpa [Nat.blt_eq] using h3
            have hl1 := (evL_s (K := fun _ => True) hC _ _ _ _ _ he1 trivial).2
            have hl2 := (evL_s (K := fun _ => True) hC _ _ _ _ _ h4 trivial).2
            refine ⟨by rw [hl2, List.length_set, hl1], ?_⟩
            refine CW.regionDM (o := ops.toList) m h1.2 hx h1.1 (fun c hc => by rw [ho] at hc; cases hc) ⟨?_⟩
            refine (evL_s (M := M) (un := false) (K := fun s' => LW P T l.length x s' (fun s2 => AW P T M (clsOf M) ops (ops.toList.drop (m + 1)) s2 (Q .normal))) hC _ _ _ _ _ he1 ?_).1
            refine LW.ope hd (hl1 ▸ hdl) (fun _ => .callv ho hy ((hC.imp _ _ _ _ _ hi).mono ?_))
            rintro r' hp' ⟨rfl, rfl⟩
            have hp : upd (dn l1 hh1).tmps d r' = tm (l1.set d r') := tm_set hdl
            rw [hp]
            exact ⟨(evL_s (M := M) (un := false) (K := Q .normal) hC _ _ _ _ _ h4 hQ).1⟩
          · cases h2
        · cases h2
      · cases h2
def rsE (T : TypeId → TI) (l : List PV) (h : EH) : List ResultVar → Option (List PV)
  | [] => some []
  | .tmp t :: r => (rsE T l h r).map (tm l t :: ·)
  | .cell x t :: r => match tm l x with
    | .ptr tk off => match lkH h.bl tk with
      | some cs => match (T t).shape with
        | some (true, sz) => bif Nat.ble (off + sz) cs.length then (rsE T l h r).map (.agg ((cs.drop off).take sz) :: ·) else none
        | some (false, 1) => match cs[off]? with
          | some p => (rsE T l h r).map (p :: ·)
          | none => none
        | _ => none
      | none => none
    | _ => none
theorem rsE_s {l : List PV} {h : EH} : ∀ {rs : List ResultVar} {ps : List PV}, rsE T l h rs = some ps → retC T (dn l h) rs ps
  | [], ps, he => by simp only [rsE, Option.some.injEq] at he; exact he.symm
  | .tmp t :: r, ps, he => by
    simp only [rsE] at he
    obtain ⟨qs, h1, rfl⟩ := Option.map_eq_some_iff.1 he
    exact ⟨qs, rfl, rsE_s h1⟩
  | .cell x t :: r, ps, he => by
    simp only [rsE] at he
    split at he
    · rename_i tk off hx
      split at he
      · rename_i cs hb
        split at he
        · rename_i sz hs
          obtain ⟨h1, h2⟩ := cond_some he
          obtain ⟨qs, h3, rfl⟩ := Option.map_eq_some_iff.1 h2
          exact ⟨_, qs, rfl, ⟨tk, off, cs, hx, hb, .inl ⟨sz, hs, Nat.le_of_ble_eq_true h1, rfl⟩⟩, rsE_s h3⟩
        · rename_i hs
          split at he
          · rename_i p hp
            obtain ⟨qs, h3, rfl⟩ := Option.map_eq_some_iff.1 he
            exact ⟨_, qs, rfl, ⟨tk, off, cs, hx, hb, .inr ⟨hs, hp⟩⟩, rsE_s h3⟩
          · cases he
        · cases he
      · cases he
    · cases he
theorem retC_uniq {s : AS} : ∀ {rs : List ResultVar} {ps qs : List PV}, resOk 0 rs = true → retC T s rs ps → retC T s rs qs → ps = qs
  | [], ps, qs, _, h1, h2 => by rw [show ps = [] from h1, show qs = [] from h2]
  | .tmp t :: r, ps, qs, hk, ⟨p1, e1, h1⟩, ⟨q1, e2, h2⟩ => by rw [e1, e2, retC_uniq (rs := r) hk h1 h2]
  | .cell x t :: r, ps, qs, hk, _, _ => by cases hk
def fzE (h : EH) : Nat → PV → Option PV
  | 0, _ => none
  | k + 1, p => match p with
    | .ref t off sz n => match lkH h.bl t with
      | some cs => bif Nat.ble (off + n * sz) cs.length then (fzL (fzE h k) ((cs.drop off).take (n * sz))).map (.lst false sz n ·) else none
      | none => none
    | .ptr t off => match lkH h.bl t with
      | some cs => bif Nat.ble off cs.length then (fzL (fzE h k) (cs.drop off)).map .lptr else none
      | none => none
    | .agg cs => (fzL (fzE h k) cs).map .agg
    | .tup cs => (fzL (fzE h k) cs).map .tup
    | p => bif p.cl then some p else none
where fzL (f : PV → Option PV) : List PV → Option (List PV)
  | [] => some []
  | p :: l => match f p, fzL f l with
    | some q, some r => some (q :: r)
    | _, _ => none
theorem fzL_s {f : PV → Option PV} : ∀ {cs ds : List PV}, fzE.fzL f cs = some ds → ds.length = cs.length ∧ ∀ i, i < cs.length → f (cs.getD i .junk) = some (ds.getD i .junk)
  | [], ds, he => by
    simp only [fzE.fzL, Option.some.injEq] at he
    subst he
    exact ⟨rfl, fun i hi => by simp at hi⟩
  | p :: l, ds, he => by
    simp only [fzE.fzL] at he
    split at he
    · rename_i q r h1 h2
      cases he
      obtain ⟨k1, k2⟩ := fzL_s h2
      refine ⟨by simp [k1], fun i hi => ?_⟩
      cases i with
      | zero => exact h1
      | succ i =>
        have := k2 i (by simpa using hi)
        simpa [List.getD] using this
    · cases he
theorem fzE_s {h : EH} : ∀ {k : Nat} {p r : PV}, fzE h k p = some r → Fz h.hp p r
  | 0, p, r, he => by cases he
  | k + 1, p, r, he => by
    simp only [fzE] at he
    split at he
    · rename_i t off sz n
      split at he
      · rename_i cs hb
        obtain ⟨h1, h2⟩ := cond_some he
        obtain ⟨ds, h3, rfl⟩ := Option.map_eq_some_iff.1 h2
        have hle := Nat.le_of_ble_eq_true h1
        obtain ⟨k1, k2⟩ := fzL_s h3
        have hl : ((cs.drop off).take (n * sz)).length = n * sz := by simp; omega
        refine .ref hb hle (k1.trans hl) (fun i hi => ?_)
        have := fzE_s (k2 i (by rw [hl]; exact hi))
        rwa [show ((cs.drop off).take (n * sz)).getD i .junk = cs.getD (off + i) .junk by simp [List.getD, List.getElem?_take, hi, List.getElem?_drop]] at this
      · cases he
    · rename_i t off
      split at he
      · rename_i cs hb
        obtain ⟨h1, h2⟩ := cond_some he
        obtain ⟨ds, h3, rfl⟩ := Option.map_eq_some_iff.1 h2
        have hle := Nat.le_of_ble_eq_true h1
        obtain ⟨k1, k2⟩ := fzL_s h3
        rw [List.length_drop] at k1 k2
        refine .ptr hb (by omega) (fun i hi => ?_)
        have := fzE_s (k2 i (by omega))
        rwa [show (cs.drop off).getD i .junk = cs.getD (off + i) .junk by simp [List.getD, List.getElem?_drop]] at this
      · cases he
    · obtain ⟨ds, h3, rfl⟩ := Option.map_eq_some_iff.1 he
      obtain ⟨k1, k2⟩ := fzL_s h3
      exact .agg k1 (fun i hi => fzE_s (k2 i hi))
    · obtain ⟨ds, h3, rfl⟩ := Option.map_eq_some_iff.1 he
      obtain ⟨k1, k2⟩ := fzL_s h3
      exact .tup k1 (fun i hi => fzE_s (k2 i hi))
    · obtain ⟨h1, h2⟩ := cond_some he
      cases h2
      exact .cl h1
def frzE (M : Hn) (id : Nat) (l : List PV) (h : EH) : List PV × EH :=
  bif M.fz.any (Nat.beq (100000 + id)) then (l.map fun p => (fzE h 6 p).getD .junk, ⟨[], h.next⟩) else (l, h)
theorem frzE_s {M : Hn} {id : Nat} {l : List PV} {h : EH} : (frzE M id l h).1.length = l.length ∧ ∀ {n : Nat} {c : Code} {Q : Exit → AS → Prop}, CW P T M n c (dn (frzE M id l h).1 (frzE M id l h).2) Q → CW P T M n c (dn l h) Q := by
  unfold frzE
  cases M.fz.any (Nat.beq (100000 + id)) with
  | false => exact ⟨rfl, fun hh => hh⟩
  | true =>
    refine ⟨by simp, fun hh => CW.frzAll (t' := tm (l.map fun p => (fzE h 6 p).getD .junk)) (fun d => ?_) hh⟩
    by_cases hd : d < l.length
    · have e1 : tm (l.map fun p => (fzE h 6 p).getD .junk) d = (fzE h 6 l[d]).getD .junk := by simp [tm, List.getD, hd]
      have e2 : tm l d = l[d] := by simp [tm, List.getD, hd]
      rw [e1, e2]
      cases hf : fzE h 6 l[d] with
      | none => exact .inl rfl
      | some r => exact .inr (fzE_s hf)
    · left; simp [tm, List.getD, hd]
def RunT := Hn → Code → List PV → EH → Option (Exit × List PV × EH)
def isEnd : Exit → Bool
  | .normal | .ret => true
  | _ => false
def frame (fn : Func) (args : List PV) : List PV := args ++ List.replicate (fn.ntmps - args.length) .junk
def EH0 : EH := ⟨[], 0⟩
def bodyE (T : TypeId → TI) (F : FuncId → Option (Func × Hn)) (run : RunT) (f : FuncId) (args : List PV) (h : EH) : Option (Func × List PV × List PV × EH) :=
  match F f with
  | some (fn, M) => match fn.body with
    | some c => bif Nat.ble args.length fn.ntmps then match run M c (frame fn args) h with
      | some (e, l', h') => bif isEnd e then (rsE T l' h' fn.results.toList).map fun ps => (fn, ps, l', h') else none
      | none => none
      else none
    | none => none
  | none => none
def calE (T : TypeId → TI) (F : FuncId → Option (Func × Hn)) (lib : Cal) (run : RunT) : Cal where
  imp f args h := match lib.imp f args h with
    | some r => some r
    | none => (bodyE T F run f args h).map fun x => (packP x.2.1, x.2.2.2)
  pur f args := match lib.pur f args with
    | some r => some r
    | none => match bodyE T F run f args EH0 with
      | some (_, ps, _, h') => fzE h' 6 (packP ps)
      | none => none
  own f args := match lib.own f args with
    | some r => some r
    | none => match bodyE T F run f args EH0 with
      | some (fn, _, l', h') => bif resOk 0 fn.results.toList then (match retPV (dn l' h') fn.results.toList with
        | .ref t off sz n => match lkH h'.bl t with
          | some cs => bif Nat.ble (off + n * sz) cs.length && PV.cl.clL ((cs.drop off).take (n * sz)) then some (sz, n, (cs.drop off).take (n * sz)) else none
          | none => none
        | _ => none) else none
      | none => none
  mt := lib.mt
def evC (T : TypeId → TI) (F : FuncId → Option (Func × Hn)) (lib : Cal) : Nat → RunT
  | 0, _, _, _, _ => none
  | k + 1, M, c, l, h => match c with
    | .skip => some (.normal, l, h)
    | .exit id => some (.exit id, l, h)
    | .ret => some (.ret, l, h)
    | .seq x y => match evC T F lib k M x l h with
      | some (.normal, l', h') => evC T F lib k M y l' h'
      | r => r
    | .block id x => match evC T F lib k M x l h with
      | some (.exit id', l', h') => bif Nat.beq id' id then some (.normal, l', h') else some (.exit id', l', h')
      | r => r
    | .cond x a b => match evA (tm l) x with
      | .sc (.bool true) => evC T F lib k M a l h
      | .sc (.bool false) => evC T F lib k M b l h
      | _ => none
    | .loop x => match evC T F lib k M x l h with
      | some (.normal, l', h') => evC T F lib k M (.loop x) l' h'
      | r => r
    | .region id ops d => match frzE M id l h with
      | (l, h) => match evL T M (calE T F lib (evC T F lib k)) (!d) ops ops.toList l h with
        | some (l', h') => some (.normal, l', h')
        | none => bif d then (midE T M (calE T F lib (evC T F lib k)) ops l h).map fun p => (.normal, p.1, p.2) else none
    | _ => none
def FOk (P : Program) (F : FuncId → Option (Func × Hn)) : Prop := ∀ f fn M, F f = some (fn, M) → P.funcs[f]? = some fn ∧ (fn.name == "runtime.NumGoroutine") = false ∧ ∀ c, fn.body = some c → codeOk M fn.ntmps c = true
def RunOk (P : Program) (T : TypeId → TI) (run : RunT) : Prop := ∀ M c l h e l' h', run M c l h = some (e, l', h') → l'.length = l.length ∧ ∀ Q : Exit → AS → Prop, Q e (dn l' h') → CW P T M l.length c (dn l h) Q
theorem tm_frame (fn : Func) (args : List PV) : tm (frame fn args) = argT args := by
  funext t
  unfold tm frame argT
  simp only [List.getD]
  by_cases h : t < args.length
  · rw [List.getElem?_append_left h]
  · rw [List.getElem?_append_right (by omega), List.getElem?_eq_none (l := args) (by omega), List.getElem?_replicate]
    split <;> rfl
theorem bodyE_s {F : FuncId → Option (Func × Hn)} {run : RunT} (hF : FOk P F) (hR : RunOk P T run) {f : FuncId} {args : List PV} {h : EH} {fn : Func} {ps l' : List PV} {h' : EH} (he : bodyE T F run f args h = some (fn, ps, l', h')) :
    ∃ M c, P.funcs[f]? = some fn ∧ (fn.name == "runtime.NumGoroutine") = false ∧ fn.body = some c ∧ codeOk M fn.ntmps c = true ∧ Nat.ble args.length fn.ntmps = true ∧ retC T (dn l' h') fn.results.toList ps ∧
      ∀ Q : Exit → AS → Prop, (∀ e, e = .normal ∨ e = .ret → Q e (dn l' h')) → CW P T M fn.ntmps c ⟨argT args, h.hp⟩ Q := by
  unfold bodyE at he
  split at he
  · rename_i fn0 M hFf
    split at he
    · rename_i c hb
      obtain ⟨h1, h2⟩ := cond_some he
      split at h2
      · rename_i e l1 h1' hr
        obtain ⟨h3, h4⟩ := cond_some h2
        obtain ⟨ps0, h5, h6⟩ := Option.map_eq_some_iff.1 h4
        simp only [Prod.mk.injEq] at h6
        obtain ⟨rfl, rfl, rfl, rfl⟩ := h6
        obtain ⟨q1, q2, q3⟩ := hF _ _ _ hFf
        refine ⟨M, c, q1, q2, hb, q3 c hb, h1, rsE_s h5, fun Q hQ => ?_⟩
        have hlen : (frame fn0 args).length = fn0.ntmps := by
          have := Nat.le_of_ble_eq_true h1
          simp [frame]; omega
        have := (hR _ _ _ _ _ _ _ hr).2 Q (hQ e (by cases e <;> simp_all [isEnd]))
        rw [hlen] at this
        unfold dn at this
        rw [tm_frame] at this
        exact this
      · cases h2
    · cases he
  · cases he
theorem calE_ok {F : FuncId → Option (Func × Hn)} {lib : Cal} {run : RunT} (hT : TOk P T) (hm : P.follows .mixedOrders = true) (hF : FOk P F) (hL : CalOk P lib) (hR : RunOk P T run) : CalOk P (calE T F lib run) := by
  refine ⟨fun f args h r h' he => ?_, fun f args r he => ?_, fun f args sz n cs he => ?_, hL.mt⟩
  · simp only [calE] at he
    split at he
    · rename_i r' hl
      cases he
      exact hL.imp _ _ _ _ _ hl
    · obtain ⟨x, hx, h2⟩ := Option.map_eq_some_iff.1 he
      obtain ⟨fn, ps, l1, h1⟩ := x
      simp only [Prod.mk.injEq] at h2
      obtain ⟨rfl, rfl⟩ := h2
      obtain ⟨M, c, q1, q2, q3, q4, q5, q6, q7⟩ := bodyE_s hF hR hx
      refine SChE.walk M hT hm q1 q2 q3 rfl q5 (by simp) q4 (fun _ => q7 _ (fun e hE => ⟨hE, ps, q6, rfl, rfl⟩))
  · simp only [calE] at he
    split at he
    · rename_i r' hl
      cases he
      exact hL.pur _ _ _ hl
    · split at he
      · rename_i fn ps l1 h1 hx
        obtain ⟨M, c, q1, q2, q3, q4, q5, q6, q7⟩ := bodyE_s hF hR hx
        refine SC.walk M hT hm q1 q2 q3 rfl q5 (by simp) q4 (q7 _ (fun e hE => ⟨hE, ?_⟩))
        unfold FzRes
        cases hk : resOk 0 fn.results.toList with
        | true =>
          simp only
          obtain ⟨ps', r1, r2⟩ := retC_tmp (T := T) (s := dn l1 h1) hk
          rw [← r2, retC_uniq hk r1 q6]
          exact fzE_s he
        | false => exact ⟨ps, q6, fzE_s he⟩
      · cases he
  · simp only [calE] at he
    split at he
    · rename_i r' hl
      cases he
      exact hL.own _ _ _ _ _ hl
    · split at he
      · rename_i fn ps l1 h1 hx
        obtain ⟨M, c, q1, q2, q3, q4, q5, q6, q7⟩ := bodyE_s hF hR hx
        obtain ⟨h2, h3⟩ := cond_some he
        split at h3
        · rename_i t off sz' n' hret
          split at h3
          · rename_i cs0 hb
            obtain ⟨h4, h5⟩ := cond_some h3
            simp only [Option.some.injEq, Prod.mk.injEq] at h5
            obtain ⟨rfl, rfl, rfl⟩ := h5
            rw [Bool.and_eq_true] at h4
            refine SCo.walk M hT hm q1 q2 q3 rfl q5 (by rw [resOk_any (m := 0)]; exact h2) q4 (q7 _ (fun e hE => ⟨hE, ?_⟩))
            rw [hret]
            exact .ref hb (Nat.le_of_ble_eq_true h4.1) rfl h4.2
          · cases h3
        · cases h3
      · cases he
theorem evC_ok {F : FuncId → Option (Func × Hn)} {lib : Cal} (hT : TOk P T) (hm : P.follows .mixedOrders = true) (hF : FOk P F) (hL : CalOk P lib) : ∀ k, RunOk P T (evC T F lib k) := by
  intro k
  induction k using Nat.strongRecOn with
  | _ k IH =>
  cases k with
  | zero => intro M c l h e l' h' he; cases he
  | succ k =>
    have ih : RunOk P T (evC T F lib k) := IH k (by omega)
    intro M c l h e l' h' he
    cases c with
    | skip => simp only [evC, Option.some.injEq, Prod.mk.injEq] at he; obtain ⟨rfl, rfl, rfl⟩ := he; exact ⟨rfl, fun Q hQ => .skip hQ⟩
    | exit id => simp only [evC, Option.some.injEq, Prod.mk.injEq] at he; obtain ⟨rfl, rfl, rfl⟩ := he; exact ⟨rfl, fun Q hQ => .exit hQ⟩
    | ret => simp only [evC, Option.some.injEq, Prod.mk.injEq] at he; obtain ⟨rfl, rfl, rfl⟩ := he; exact ⟨rfl, fun Q hQ => .ret hQ⟩
    | seq x y =>
      simp only [evC] at he
      split at he
      · rename_i l1 h1 hx
        obtain ⟨k1, k2⟩ := ih _ _ _ _ _ _ _ hx
        obtain ⟨k3, k4⟩ := ih _ _ _ _ _ _ _ he
        refine ⟨k3.trans k1, fun Q hQ => .seq (k2 _ (.nm ?_))⟩
        have := k4 Q hQ
        rwa [k1] at this
      · rename_i hne
        obtain ⟨k1, k2⟩ := ih _ _ _ _ _ _ _ he
        refine ⟨k1, fun Q hQ => .seq (k2 _ ⟨?_⟩)⟩
        cases e with
        | normal => exact absurd he (hne _ _)
        | _ => exact hQ
    | block id x =>
      simp only [evC] at he
      split at he
      · rename_i id' l1 h1 hx
        obtain ⟨k1, k2⟩ := ih _ _ _ _ _ _ _ hx
        cases hb : Nat.beq id' id
        · rw [hb] at he
          simp only [cond_false, Option.some.injEq, Prod.mk.injEq] at he
          obtain ⟨rfl, rfl, rfl⟩ := he
          exact ⟨k1, fun Q hQ => .block (k2 _ (.o hb hQ))⟩
        · rw [hb] at he
          simp only [cond_true, Option.some.injEq, Prod.mk.injEq] at he
          obtain ⟨rfl, rfl, rfl⟩ := he
          have := Nat.eq_of_beq_eq_true hb
          subst this
          exact ⟨k1, fun Q hQ => .block (k2 _ (.e hQ))⟩
      · rename_i hne
        obtain ⟨k1, k2⟩ := ih _ _ _ _ _ _ _ he
        refine ⟨k1, fun Q hQ => .block (k2 _ ⟨?_⟩)⟩
        cases e with
        | exit id' => exact absurd he (hne _ _ _)
        | _ => exact hQ
    | cond x a b =>
      simp only [evC] at he
      split at he
      · rename_i hx
        obtain ⟨k1, k2⟩ := ih _ _ _ _ _ _ _ he
        exact ⟨k1, fun Q hQ => .condT hx rfl (k2 Q hQ)⟩
      · rename_i hx
        obtain ⟨k1, k2⟩ := ih _ _ _ _ _ _ _ he
        exact ⟨k1, fun Q hQ => .condF hx rfl (k2 Q hQ)⟩
      · cases he
    | loop x =>
      have hlen : ∀ j, j ≤ k + 1 → ∀ l h, evC T F lib j M (.loop x) l h = some (e, l', h') → l'.length = l.length := by
        intro j
        induction j with
        | zero => intro _ l h hh; cases hh
        | succ j jh =>
          intro hj l h hh
          simp only [evC] at hh
          split at hh
          · rename_i l1 h1 hx
            have := (IH j (by omega) _ _ _ _ _ _ _ hx).1
            exact (jh (by omega) _ _ hh).trans this
          · exact (IH j (by omega) _ _ _ _ _ _ _ hh).1
      refine ⟨hlen (k + 1) (Nat.le_refl _) l h he, fun Q hQ => ?_⟩
      refine CW.loop (fun i s => i ≤ k + 1 ∧ ∃ l1 h1, s = dn l1 h1 ∧ l1.length = l.length ∧ evC T F lib i M (.loop x) l1 h1 = some (e, l', h')) (fun i => i) (k + 1) ⟨Nat.le_refl _, l, h, rfl, rfl, he⟩ ?_
      rintro i s ⟨hi, l1, h1, rfl, hl1, hh⟩
      cases i with
      | zero => cases hh
      | succ i =>
        simp only [evC] at hh
        split at hh
        · rename_i l2 h2 hx
          obtain ⟨k1, k2⟩ := IH i (by omega) _ _ _ _ _ _ _ hx
          have := k2 (TQ (fun s' => ∃ j, (j ≤ k + 1 ∧ ∃ l1 h1, s' = dn l1 h1 ∧ l1.length = l.length ∧ evC T F lib j M (.loop x) l1 h1 = some (e, l', h')) ∧ j < i + 1) Q) (.nm ⟨i, ⟨by omega, l2, h2, rfl, k1.trans hl1, hh⟩, by omega⟩)
          rwa [hl1] at this
        · rename_i hne
          obtain ⟨k1, k2⟩ := IH i (by omega) _ _ _ _ _ _ _ hh
          have := k2 (TQ (fun s' => ∃ j, (j ≤ k + 1 ∧ ∃ l1 h1, s' = dn l1 h1 ∧ l1.length = l.length ∧ evC T F lib j M (.loop x) l1 h1 = some (e, l', h')) ∧ j < i + 1) Q) ⟨by
            cases e with
            | normal => exact absurd hh (hne _ _)
            | _ => exact hQ⟩
          rwa [hl1] at this
    | region id ops d =>
      simp only [evC] at he
      have hC := calE_ok (T := T) hT hm hF hL ih
      obtain ⟨fl, fk⟩ := frzE_s (P := P) (T := T) (M := M) (id := id) (l := l) (h := h)
      generalize frzE M id l h = lh at he fl fk
      obtain ⟨lz, hz⟩ := lh
      simp only at he fl fk
      suffices hs : l'.length = lz.length ∧ ∀ Q : Exit → AS → Prop, Q e (dn l' h') → CW P T M lz.length (.region id ops d) (dn lz hz) Q by
        refine ⟨hs.1.trans fl, fun Q hQ => fk ?_⟩
        have := hs.2 Q hQ
        rwa [fl] at this
      split at he
      · rename_i l1 hh1 h1
        simp only [Option.some.injEq, Prod.mk.injEq] at he
        obtain ⟨rfl, rfl, rfl⟩ := he
        refine ⟨(evL_s (K := fun _ => True) hC _ _ _ _ _ h1 trivial).2, fun Q hQ => ?_⟩
        have key := (evL_s (K := Q .normal) hC _ _ _ _ _ h1 hQ).1
        cases d with
        | false => exact CW.region (o := ops.toList) ⟨key⟩
        | true => exact CW.regionD (o := ops.toList) ⟨key⟩
      · cases d with
        | false => simp at he
        | true =>
          simp only [cond_true] at he
          obtain ⟨p, h1, h2⟩ := Option.map_eq_some_iff.1 he
          simp only [Prod.mk.injEq] at h2
          obtain ⟨rfl, rfl, rfl⟩ := h2
          exact ⟨(midE_s (id := id) (Q := fun _ _ => True) hC h1 trivial).1, fun Q hQ => (midE_s hC h1 hQ).2⟩
    | _ => cases he
theorem evP_s {F : FuncId → Option (Func × Hn)} {lib : Cal} (hT : TOk P T) (hm : P.follows .mixedOrders = true) (hF : FOk P F) (hL : CalOk P lib) (k : Nat) {f : FuncId} {args : List PV} {r : PV} (h : (calE T F lib (evC T F lib k)).pur f args = some r) : SC P f args r :=
  (calE_ok hT hm hF hL (evC_ok hT hm hF hL k)).pur _ _ _ h
def tabE (P : Program) (l : List (FuncId × Hn)) (f : FuncId) : Option (Func × Hn) :=
  match l with
  | [] => none
  | (g, M) :: r => bif Nat.beq g f then (match P.funcs[g]? with
    | some fn => some (fn, M)
    | none => none) else tabE P r f
theorem tabE_ok {P : Program} {l : List (FuncId × Hn)} (h : ∀ x ∈ l, ∀ fn, P.funcs[x.1]? = some fn → (fn.name == "runtime.NumGoroutine") = false ∧ ∀ c, fn.body = some c → codeOk x.2 fn.ntmps c = true) : FOk P (tabE P l) := by
  intro f fn M hf
  induction l with
  | nil => cases hf
  | cons x r ih =>
    obtain ⟨g, M'⟩ := x
    simp only [tabE] at hf
    cases hb : Nat.beq g f with
    | false => rw [hb] at hf; exact ih (fun y hy => h y (by simp [hy])) hf
    | true =>
      rw [hb] at hf
      simp only [cond_true] at hf
      have := Nat.eq_of_beq_eq_true hb
      subst this
      split at hf
      · rename_i fn' hp
        cases hf
        have := h (g, M) (by simp) fn hp
        exact ⟨hp, this⟩
      · cases hf
def fokB (P : Program) : List (FuncId × Hn) → Bool
  | [] => true
  | (f, M) :: l => (match P.funcs[f]? with
    | some fn => !(fn.name == "runtime.NumGoroutine") && (match fn.body with
      | some c => codeOk M fn.ntmps c
      | none => true)
    | none => true) && fokB P l
theorem fokB_s {P : Program} : ∀ {l : List (FuncId × Hn)}, fokB P l = true → FOk P (tabE P l) := by
  intro l h
  refine tabE_ok (fun x hx fn hp => ?_)
  induction l with
  | nil => cases hx
  | cons y r ih =>
    obtain ⟨f, M⟩ := y
    simp only [fokB, Bool.and_eq_true] at h
    rcases List.mem_cons.1 hx with rfl | hx
    · have h1 := h.1
      simp only at hp
      rw [hp] at h1
      simp only [Bool.and_eq_true, Bool.not_eq_true'] at h1
      refine ⟨h1.1, fun c hc => ?_⟩
      have h2 := h1.2
      rw [hc] at h2
      exact h2
    · exact ih h.2 hx
end Go.Proofs.Ytdlpbpfcgjgppaa
