/- Facts and contracts that the claim uses. No condition of its own. -/
import Derived.Test.YtkmkcbkfakoomaaDoorGRingTextsBO
import Derived.Lib.Split
import Derived.Lib.SplitLaws
import Derived.Lib.Replace
import Derived.Lib.IndexBytes
set_option linter.unusedVariables false
set_option linter.unusedSimpArgs false
namespace Go.Proofs.YtkmkcbkfakoomaaDoor
def spl (c : UInt8) : List UInt8 → List (List UInt8)
  | [] => [[]]
  | b :: l => if b = c then [] :: spl c l else match spl c l with
    | h :: t => (b :: h) :: t
    | [] => [[b]]
theorem spl_ne (c : UInt8) : ∀ l, spl c l ≠ []
  | [] => by simp [spl]
  | b :: l => by
    unfold spl
    split
    · simp
    · split <;> simp
theorem spl_no (c : UInt8) : ∀ u : List UInt8, c ∉ u → spl c u = [u]
  | [], _ => rfl
  | b :: u, h => by
    unfold spl
    rw [if_neg (fun e => h (by simp [e])), spl_no c u (fun hm => h (by simp [hm]))]
theorem spl_cut (c : UInt8) : ∀ (u v : List UInt8), c ∉ u → spl c (u ++ c :: v) = u :: spl c v
  | [], v, _ => by show spl c (c :: v) = _; rw [spl, if_pos rfl]
  | b :: u, v, h => by
    show spl c (b :: (u ++ c :: v)) = _
    rw [spl, if_neg (fun e => h (by simp [e])), spl_cut c u v (fun hm => h (by simp [hm]))]
theorem first_c (c : UInt8) : ∀ l : List UInt8, c ∉ l ∨ ∃ u v, l = u ++ c :: v ∧ c ∉ u
  | [] => .inl (by simp)
  | b :: l => by
    by_cases e : b = c
    · exact .inr ⟨[], l, by simp [e], by simp⟩
    · rcases first_c c l with h | ⟨u, v, h1, h2⟩
      · exact .inl (fun hm => (List.mem_cons.1 hm).elim (fun e2 => e e2.symm) h)
      · exact .inr ⟨b :: u, v, by simp [h1], fun hm => (List.mem_cons.1 hm).elim (fun e2 => e e2.symm) h2⟩
theorem ixb_at (c : UInt8) : ∀ (u v : List UInt8), c ∉ u → Lib.indexByte (u ++ c :: v) c = (u.length : Int)
  | [], v, _ => by show Lib.indexByte (c :: v) c = _; simp [Lib.indexByte]
  | b :: u, v, h => by
    show Lib.indexByte (b :: (u ++ c :: v)) c = _
    unfold Lib.indexByte
    have e : (b == c) = false := beq_false_of_ne (fun e => h (by simp [e]))
    have ih := ixb_at c u v (fun hm => h (by simp [hm]))
    have e2 : (Lib.indexByte (u ++ c :: v) c == -1) = false := by rw [ih]; exact beq_false_of_ne (by omega)
    rw [e, e2, ih]
    simp
theorem count_no {c : UInt8} {u : List UInt8} (h : c ∉ u) : u.count c = 0 := List.count_eq_zero.2 h
theorem splitK_spl (c : UInt8) : ∀ (N : Nat) (l : List UInt8), l.length ≤ N → Lib.splitK [c] 0 (l.count c) l = spl c l := by
  intro N
  induction N with
  | zero =>
    intro l hl
    obtain rfl : l = [] := List.eq_nil_of_length_eq_zero (by omega)
    rfl
  | succ N ih =>
    intro l hl
    rcases first_c c l with h | ⟨u, v, rfl, h⟩
    · rw [count_no h, spl_no c l h]
      rfl
    · rw [List.count_append, count_no h, List.count_cons_self, Nat.zero_add, spl_cut c u v h, Lib.splitK]
      have hi : Lib.index (u ++ c :: v) [c] = (u.length : Int) := by rw [Lib.index_one, ixb_at c u v h]
      rw [hi, if_neg (by simp)]
      have e1 : (u ++ c :: v).take ((u.length : Int).toNat + 0) = u := by simp
      have e2 : (u ++ c :: v).drop ((u.length : Int).toNat + [c].length) = v := by simp
      rw [e1, e2, ih v (by simp at hl; omega)]
theorem replaceK_map (c : UInt8) (new : List UInt8) : ∀ (N : Nat) (l : List UInt8), l.length ≤ N → Lib.replaceK [c] new (l.count c) l = l.flatMap (fun b => if b = c then new else [b]) := by
  have hno : ∀ u : List UInt8, c ∉ u → u.flatMap (fun b => if b = c then new else [b]) = u := by
    intro u
    induction u with
    | nil => intro _; rfl
    | cons b u ih =>
      intro h
      rw [List.flatMap_cons, if_neg (fun e => h (by simp [e])), ih (fun hm => h (by simp [hm]))]
      rfl
  intro N
  induction N with
  | zero =>
    intro l hl
    obtain rfl : l = [] := List.eq_nil_of_length_eq_zero (by omega)
    rfl
  | succ N ih =>
    intro l hl
    rcases first_c c l with h | ⟨u, v, rfl, h⟩
    · rw [count_no h, hno l h]
      rfl
    · rw [List.count_append, count_no h, List.count_cons_self, Nat.zero_add]
      have hi : Lib.index (u ++ c :: v) [c] = (u.length : Int) := by rw [Lib.index_one, ixb_at c u v h]
      rw [Lib.replaceK_hit [c] new _ _ u.length hi]
      have e1 : (u ++ c :: v).take u.length = u := by simp
      have e2 : (u ++ c :: v).drop (u.length + [c].length) = v := by simp
      rw [e1, e2, ih v (by simp at hl; omega), List.flatMap_append, List.flatMap_cons, if_pos rfl, hno u h, List.append_assoc]
def tkn (l : List UInt8) : List (List UInt8) := (spl 46 l).filter (· ≠ [])
theorem tkn_cut {u : List UInt8} (v : List UInt8) (h : 46 ∉ u) : tkn (u ++ 46 :: v) = (if u = [] then [] else [u]) ++ tkn v := by
  unfold tkn
  rw [spl_cut 46 u v h, List.filter_cons]
  by_cases e : u = []
  · simp [e]
  · simp [e]
theorem tkn_no {u : List UInt8} (h : 46 ∉ u) : tkn u = if u = [] then [] else [u] := by
  unfold tkn
  rw [spl_no 46 u h]
  by_cases e : u = []
  · simp [e]
  · simp [e]
def apX (l : List UInt8) : List UInt8 := l.flatMap (fun b => if b = 120 then [46, 120, 46] else [b])
theorem apX_app (a b : List UInt8) : apX (a ++ b) = apX a ++ apX b := by simp [apX]
theorem apX_no {u : List UInt8} (h : 120 ∉ u) : apX u = u := by
  unfold apX
  induction u with
  | nil => rfl
  | cons b u ih =>
    rw [List.flatMap_cons, if_neg (fun e => h (by simp [e])), ih (fun hm => h (by simp [hm]))]
    rfl
def Wrd (w : List UInt8) : Prop := w = [120] ∨ (w ≠ [] ∧ 120 ∉ w ∧ 46 ∉ w)
def txW : List UInt8 → List (List UInt8) → List UInt8
  | _, [] => []
  | p, w :: ws => (if w ≠ [120] ∧ p ≠ [120] then [46] else []) ++ w ++ txW w ws
def lastW : List UInt8 → List (List UInt8) → List UInt8
  | p, [] => p
  | _, w :: ws => lastW w ws
theorem txW_snoc (w : List UInt8) : ∀ (ws : List (List UInt8)) (p : List UInt8), txW p (ws ++ [w]) = txW p ws ++ (if w ≠ [120] ∧ lastW p ws ≠ [120] then [46] else []) ++ w
  | [], p => by
    show (if w ≠ [120] ∧ p ≠ [120] then [46] else []) ++ w ++ [] = [] ++ (if w ≠ [120] ∧ p ≠ [120] then [46] else []) ++ w
    rw [List.append_nil, List.nil_append]
  | v :: ws, p => by
    show (if v ≠ [120] ∧ p ≠ [120] then [46] else []) ++ v ++ txW v (ws ++ [w]) = _
    rw [txW_snoc w ws v]
    show _ = (if v ≠ [120] ∧ p ≠ [120] then [46] else []) ++ v ++ txW v ws ++ (if w ≠ [120] ∧ lastW v ws ≠ [120] then [46] else []) ++ w
    simp only [List.append_assoc]
theorem txA_W (n : Nat) (l : List Int) : ∀ k, k ≤ l.length → txA n l k = txW [120] ((l.take k).map fun c => wrt n c.toNat) ∧ bfr n l k = lastW [120] ((l.take k).map fun c => wrt n c.toNat)
  | 0, _ => ⟨rfl, rfl⟩
  | k + 1, hk => by
    obtain ⟨h1, h2⟩ := txA_W n l k (by omega)
    have ht : (l.take (k + 1)).map (fun c => wrt n c.toNat) = (l.take k).map (fun c => wrt n c.toNat) ++ [wrt n (l.getD k 0).toNat] := by
      rw [List.take_succ_eq_append_getElem (by omega), List.map_append, getD_lt 0 (by omega)]; rfl
    have hl : ∀ (ws : List (List UInt8)) (p w : List UInt8), lastW p (ws ++ [w]) = w := by
      intro ws
      induction ws with
      | nil => intro p w; rfl
      | cons v ws ih => intro p w; exact ih v w
    rw [ht]
    refine ⟨?_, ?_⟩
    · rw [txW_snoc, txA, h1, h2]
    · rw [hl, bfr]
theorem txt_W (n : Nat) (l : List Int) : txt n l = txW [120] (l.map fun c => wrt n c.toNat) := by
  have := (txA_W n l l.length (Nat.le_refl _)).1
  rw [List.take_length] at this
  exact this
theorem tkn_txW : ∀ (ws : List (List UInt8)) (p : List UInt8), (∀ w ∈ ws, Wrd w) → tkn (apX (txW p ws)) = ws
  | [], p, _ => rfl
  | w :: ws, p, h => by
    have hd : ∀ R : List UInt8, tkn (apX ((if w ≠ [120] ∧ p ≠ [120] then [46] else []) ++ R)) = tkn (apX R) := fun R => by
      split
      · rw [apX_app]
        show tkn ([] ++ 46 :: apX R) = _
        rw [tkn_cut _ (by simp)]; rfl
      · rfl
    have ih := tkn_txW ws w (fun v hv => h v (by simp [hv]))
    show tkn (apX ((if w ≠ [120] ∧ p ≠ [120] then [46] else []) ++ w ++ txW w ws)) = _
    rw [List.append_assoc, hd, apX_app]
    rcases h w (by simp) with rfl | ⟨h1, h2, h3⟩
    · show tkn ([] ++ 46 :: ([120] ++ 46 :: apX (txW [120] ws))) = _
      rw [tkn_cut _ (by simp), tkn_cut _ (by decide), ih]
      rfl
    · rw [apX_no h2]
      cases ws with
      | nil =>
        show tkn (w ++ []) = _
        rw [List.append_nil, tkn_no h3, if_neg h1]
      | cons v ws =>
        have hR : ∃ R, apX (txW w (v :: ws)) = 46 :: R := by
          show ∃ R, apX ((if v ≠ [120] ∧ w ≠ [120] then [46] else []) ++ v ++ txW v ws) = 46 :: R
          by_cases hv : v = [120]
          · rw [if_neg (fun c => c.1 hv), hv, List.nil_append, apX_app]
            exact ⟨_, rfl⟩
          · rw [if_pos ⟨hv, fun e => h2 (by simp [e])⟩, List.append_assoc, apX_app]
            exact ⟨_, rfl⟩
        obtain ⟨R, hR⟩ := hR
        rw [hR] at ih ⊢
        rw [tkn_cut _ h3, if_neg h1, ← ih]
        show _ = w :: tkn ([] ++ 46 :: R)
        rw [tkn_cut _ (by simp)]
        rfl
/-! ### what is put together is cut into the same changes -/
theorem runT_at (s u v : List UInt8) (hu : 120 ∉ u ∧ 46 ∉ u) (hv : v = [] ∨ ∃ b r, v = b :: r ∧ (b = 120 ∨ b = 46)) : ∀ (f k : Nat), s.drop k = u ++ v → u.length ≤ f → runT s f k = k + u.length := by
  induction u with
  | nil =>
    intro f k hd hf
    cases f with
    | zero => rfl
    | succ f =>
      unfold runT
      rw [if_neg]
      · rfl
      · rintro ⟨h1, h2, h3⟩
        rw [List.nil_append] at hd
        have hg : s.drop k = s[k] :: s.drop (k + 1) := List.drop_eq_getElem_cons h1
        rw [getD_lt 0 h1] at h2 h3
        rcases hv with rfl | ⟨b, r, rfl, hb⟩
        · rw [hg] at hd; cases hd
        · rw [hg] at hd
          have : s[k] = b := by injection hd
          rcases hb with rfl | rfl
          · exact h2 this
          · exact h3 this
  | cons b u ih =>
    intro f k hd hf
    obtain ⟨f, rfl⟩ : ∃ f', f = f' + 1 := ⟨f - 1, by simp at hf; omega⟩
    have hk : k < s.length := by
      apply Classical.byContradiction; intro hc
      rw [List.drop_eq_nil_of_le (by omega)] at hd; cases hd
    have hg : s.drop k = s[k] :: s.drop (k + 1) := List.drop_eq_getElem_cons hk
    rw [hg, List.cons_append] at hd
    have e1 : s[k] = b := by injection hd
    have e2 : s.drop (k + 1) = u ++ v := by injection hd
    unfold runT
    rw [if_pos ⟨hk, by rw [getD_lt 0 hk, e1]; exact fun e => hu.1 (by simp [e]), by rw [getD_lt 0 hk, e1]; exact fun e => hu.2 (by simp [e])⟩]
    rw [ih ⟨fun h => hu.1 (by simp [h]), fun h => hu.2 (by simp [h])⟩ f (k + 1) e2 (by simp at hf; omega)]
    simp; omega
theorem txW_head {w : List UInt8} (hw : Wrd w) : ∀ ws : List (List UInt8), (∀ v ∈ ws, Wrd v) → w ≠ [120] → (txW w ws = [] ∨ ∃ b r, txW w ws = b :: r ∧ (b = 120 ∨ b = 46))
  | [], _, _ => .inl rfl
  | v :: ws, h, hne => by
    right
    show ∃ b r, (if v ≠ [120] ∧ w ≠ [120] then [46] else []) ++ v ++ txW v ws = b :: r ∧ _
    by_cases hv : v = [120]
    · rw [if_neg (fun c => c.1 hv), hv]
      exact ⟨120, _, rfl, .inl rfl⟩
    · rw [if_pos ⟨hv, hne⟩]
      exact ⟨46, _, rfl, .inr rfl⟩
theorem drop_cons_of {s : List UInt8} {i : Nat} {b : UInt8} {r : List UInt8} (h : s.drop i = b :: r) : i < s.length ∧ s.getD i 0 = b ∧ s.drop (i + 1) = r := by
  have hk : i < s.length := by
    apply Classical.byContradiction; intro hc
    rw [List.drop_eq_nil_of_le (by omega)] at h; cases h
  have hg : s.drop i = s[i] :: s.drop (i + 1) := List.drop_eq_getElem_cons hk
  rw [hg] at h
  exact ⟨hk, by rw [getD_lt 0 hk]; injection h, by injection h⟩
theorem endT_at {s w T : List UInt8} {i : Nat} (hw : Wrd w) (hd : s.drop i = w ++ T) (hT : w ≠ [120] → (T = [] ∨ ∃ b r, T = b :: r ∧ (b = 120 ∨ b = 46))) : i < s.length ∧ endT s i = i + w.length := by
  rcases hw with rfl | ⟨h1, h2, h3⟩
  · obtain ⟨g1, g2, g3⟩ := drop_cons_of (b := 120) (r := T) hd
    exact ⟨g1, by unfold endT; rw [if_pos g2]; rfl⟩
  · obtain ⟨a, u, rfl⟩ : ∃ a u, w = a :: u := by
      cases w with
      | nil => exact absurd rfl h1
      | cons a u => exact ⟨a, u, rfl⟩
    obtain ⟨g1, g2, g3⟩ := drop_cons_of (b := a) (r := u ++ T) hd
    refine ⟨g1, ?_⟩
    unfold endT
    rw [if_neg (by rw [g2]; exact fun e => h2 (by simp [e])), runT_at s u T ⟨fun h => h2 (by simp [h]), fun h => h3 (by simp [h])⟩ (hT (fun e => h2 (by rw [e]; simp))) s.length (i + 1) g3 (by
      have := congrArg List.length g3
      simp at this; omega)]
    simp; omega
theorem drop_add {s w T : List UInt8} {i : Nat} (hd : s.drop i = w ++ T) : s.drop (i + w.length) = T := by
  rw [← List.drop_drop, hd]; simp
theorem prs_txW (n : Nat) (s : List UInt8) : ∀ (ws : List (List UInt8)) (w : List UInt8) (f i : Nat), (∀ v ∈ w :: ws, Wrd v) → s.drop i = w ++ txW w ws → ws.length + 1 ≤ f → prs n s f i = (w :: ws).map fun v => ((coL n v : Nat) : Int) := by
  intro ws
  induction ws with
  | nil =>
    intro w f i h hd hf
    obtain ⟨f, rfl⟩ : ∃ f', f = f' + 1 := ⟨f - 1, by simp at hf; omega⟩
    obtain ⟨g1, g2⟩ := endT_at (h w (by simp)) hd (fun _ => .inl rfl)
    have g3 := drop_add hd
    have g4 : s.length ≤ i + w.length := List.drop_eq_nil_iff.1 g3
    have g5 : (s.drop i).take (endT s i - i) = w := by
      rw [g2, hd, show i + w.length - i = w.length by omega]
      show (w ++ []).take w.length = w
      simp
    have g6 : prs n s f (nxtT s (endT s i)) = [] := by
      have : nxtT s (endT s i) = i + w.length := by rw [g2]; exact if_neg (fun c => by omega)
      rw [this]
      cases f with
      | zero => rfl
      | succ f => rw [prs, if_neg (by omega)]
    rw [prs, if_pos g1, g5, g6]
    rfl
  | cons v ws ih =>
    intro w f i h hd hf
    obtain ⟨f, rfl⟩ : ∃ f', f = f' + 1 := ⟨f - 1, by simp at hf; omega⟩
    have hws : ∀ x ∈ v :: ws, Wrd x := fun x hx => h x (by simp [List.mem_cons.1 hx])
    obtain ⟨g1, g2⟩ := endT_at (h w (by simp)) hd (fun hne => txW_head (h w (by simp)) (v :: ws) hws hne)
    have g3 := drop_add hd
    have g5 : (s.drop i).take (endT s i - i) = w := by
      rw [g2, hd, show i + w.length - i = w.length by omega]
      simp
    have g6 : s.drop (nxtT s (endT s i)) = v ++ txW v ws := by
      rw [g2]
      have e3 : s.drop (i + w.length) = (if v ≠ [120] ∧ w ≠ [120] then [46] else []) ++ v ++ txW v ws := g3
      by_cases hdot : v ≠ [120] ∧ w ≠ [120]
      · rw [if_pos hdot, List.append_assoc] at e3
        obtain ⟨q1, q2, q3⟩ := drop_cons_of (b := 46) (r := v ++ txW v ws) e3
        rw [show nxtT s (i + w.length) = i + w.length + 1 from if_pos ⟨q1, q2⟩, q3]
      · rw [if_neg hdot, List.nil_append] at e3
        have hne : ¬ (i + w.length < s.length ∧ s.getD (i + w.length) 0 = 46) := by
          rintro ⟨_, q⟩
          rcases hws v (by simp) with hv | ⟨h1, h2, h3⟩
          · rw [hv] at e3
            obtain ⟨_, q2, _⟩ := drop_cons_of (b := 120) (r := txW [120] ws) e3
            rw [q] at q2; exact absurd q2 (by decide)
          · cases v with
            | nil => exact h1 rfl
            | cons a u =>
              obtain ⟨_, q2, _⟩ := drop_cons_of (b := a) (r := u ++ txW (a :: u) ws) e3
              rw [q] at q2
              exact h3 (by simp [q2])
        rw [show nxtT s (i + w.length) = i + w.length from if_neg hne, e3]
    rw [prs, if_pos g1, g5, ih v f _ hws g6 (by simp at hf ⊢; omega)]
    rfl
/-! ### written changes -/
theorem wrt_wrd : ∀ n : Fin 8, ∀ c : Fin 64, (wrt n.val c.val = [120] ∨ (wrt n.val c.val ≠ [] ∧ ¬ (120 ∈ wrt n.val c.val) ∧ ¬ (46 ∈ wrt n.val c.val))) := by decide +kernel
theorem coL_wrt : ∀ n : Fin 8, ∀ c : Fin 64, 1 ≤ n.val → gdC n.val (c.val : Int) → coL n.val (wrt n.val c.val) = c.val := by decide +kernel
theorem wrt_inj {n : Nat} (h1 : 1 ≤ n) (hn : n ≤ 7) {a b : Int} (ha : gdC n a) (hb : gdC n b) (e : wrt n a.toNat = wrt n b.toNat) : a = b := by
  have la := gdC_lt ha hn
  have lb := gdC_lt hb hn
  have qa := coL_wrt ⟨n, by omega⟩ ⟨a.toNat, by omega⟩ h1 (by rw [show ((a.toNat : Nat) : Int) = a by omega]; exact ha)
  have qb := coL_wrt ⟨n, by omega⟩ ⟨b.toNat, by omega⟩ h1 (by rw [show ((b.toNat : Nat) : Int) = b by omega]; exact hb)
  simp only at qa qb
  rw [e, qb] at qa
  omega
theorem wrds {n : Nat} (hn : n ≤ 7) {l : List Int} (h : ∀ c ∈ l, gdC n c) : ∀ w ∈ l.map (fun c => wrt n c.toNat), Wrd w := by
  intro w hw
  obtain ⟨c, hc, rfl⟩ := List.mem_map.1 hw
  have lc := gdC_lt (h c hc) hn
  exact wrt_wrd ⟨n, by omega⟩ ⟨c.toNat, by omega⟩
theorem prsL_txt {n : Nat} (h1 : 1 ≤ n) (hn : n ≤ 7) {l : List Int} (h : ∀ c ∈ l, gdC n c) : prsL n (txt n l) = l := by
  have hw := wrds hn h
  have hback : l.map (fun c => ((coL n (wrt n c.toNat) : Nat) : Int)) = l := by
    have : ∀ c ∈ l, ((coL n (wrt n c.toNat) : Nat) : Int) = c := fun c hc => by
      have lc := gdC_lt (h c hc) hn
      have := coL_wrt ⟨n, by omega⟩ ⟨c.toNat, by omega⟩ h1 (by rw [show ((c.toNat : Nat) : Int) = c by omega]; exact h c hc)
      simp only at this
      omega
    rw [List.map_congr_left this, List.map_id']
  rw [txt_W]
  have hlen : ∀ (ws : List (List UInt8)) (p : List UInt8), (∀ w ∈ ws, Wrd w) → ws.length ≤ (txW p ws).length := by
    intro ws
    induction ws with
    | nil => intro p _; simp
    | cons v ws ih =>
      intro p hv
      have := ih v (fun w hw => hv w (by simp [hw]))
      have h0 : 1 ≤ v.length := by
        rcases hv v (by simp) with rfl | ⟨h1, _, _⟩
        · simp
        · exact List.length_pos_iff.2 h1
      show _ ≤ ((if v ≠ [120] ∧ p ≠ [120] then [46] else []) ++ v ++ txW v ws).length
      rw [List.length_append, List.length_append]
      simp only [List.length_cons]
      omega
  cases l with
  | nil => rfl
  | cons c l =>
    have hl := hlen ((c :: l).map fun c => wrt n c.toNat) [120] hw
    have e0 : txW [120] ((c :: l).map fun c => wrt n c.toNat) = wrt n c.toNat ++ txW (wrt n c.toNat) (l.map fun c => wrt n c.toNat) := by
      show (if wrt n c.toNat ≠ [120] ∧ ([120] : List UInt8) ≠ [120] then [46] else []) ++ wrt n c.toNat ++ _ = _
      rw [if_neg (fun c => c.2 rfl), List.nil_append]
    have hw' : ∀ v ∈ wrt n c.toNat :: l.map (fun c => wrt n c.toNat), Wrd v := hw
    unfold prsL
    rw [prs_txW n _ (l.map fun c => wrt n c.toNat) (wrt n c.toNat) _ 0 hw' (by simpa only [List.drop_zero] using e0) (by simpa using hl)]
    rw [← List.map_cons (f := fun c : Int => wrt n c.toNat), List.map_map]
    exact hback
theorem bits_put : ∀ i : Fin 6, ∀ o : Fin 64, o.val < 2 ^ (i.val - 1) → noAd o.val = true → noAd (o.val + 2 ^ i.val) = true := by decide +kernel
theorem coS_ad {n : Nat} (hn : n ≤ 7) (st : Nat → Bool) : ∀ f i o, o < 2 ^ (i - 1) → noAd o = true → noAd (coS n st f i o) = true
  | 0, i, o, _, h => h
  | f + 1, i, o, h, h' => by
    unfold coS
    split
    · rename_i hi
      have h64 : o < 64 := Nat.lt_of_lt_of_le h (by rw [show (64 : Nat) = 2 ^ 6 from rfl]; exact Nat.pow_le_pow_right (by decide) (by omega))
      have e0 : 2 ^ (i - 1) ≤ 2 ^ i := Nat.pow_le_pow_right (by decide) (by omega)
      split
      · refine coS_ad hn st f (i + 2) _ ?_ (bits_put ⟨i, by omega⟩ ⟨o, h64⟩ h h')
        rw [show i + 2 - 1 = i + 1 by omega, Nat.pow_succ]; omega
      · refine coS_ad hn st f (i + 1) _ ?_ h'
        rw [show i + 1 - 1 = i by omega]; omega
    · exact h'
theorem coL_gd {n : Nat} (hn : n ≤ 7) (w : List UInt8) : gdC n ((coL n w : Nat) : Int) :=
  ⟨by omega, by rw [Int.toNat_natCast]; exact coS_lt (isIn w) n 0 0 (by simp) (Nat.pow_pos (by decide)), by rw [Int.toNat_natCast]; exact coS_ad hn (isIn w) n 0 0 (by simp) (by decide)⟩
theorem prs_gd {n : Nat} (hn : n ≤ 7) (s : List UInt8) : ∀ f i, ∀ x ∈ prs n s f i, gdC n x
  | 0, i => by simp [prs]
  | f + 1, i => by
    intro x hx
    unfold prs at hx
    split at hx
    · rcases List.mem_cons.1 hx with rfl | hx
      · exact coL_gd hn _
      · exact prs_gd hn s f _ x hx
    · simp at hx
/-! ### the reference's way: each piece is looked up -/
def fndC (n : Nat) (w : List UInt8) : Option Int := (chgL n).find? fun c => wrt n c.toNat = w
theorem fndC_some {n : Nat} {w : List UInt8} {c : Int} (h : fndC n w = some c) : c ∈ chgL n ∧ wrt n c.toNat = w :=
  ⟨List.mem_of_find?_eq_some h, by have := List.find?_some h; simpa using this⟩
theorem fndC_wrt {n : Nat} (h1 : 1 ≤ n) (hn : n ≤ 7) {c : Int} (hc : gdC n c) : fndC n (wrt n c.toNat) = some c := by
  cases h : fndC n (wrt n c.toNat) with
  | none =>
    have := List.find?_eq_none.1 h c ((mem_chg h1 hn c).2 hc)
    simp at this
  | some d =>
    obtain ⟨q1, q2⟩ := fndC_some h
    rw [wrt_inj h1 hn ((mem_chg h1 hn d).1 q1) hc q2]
def fndW (n : Nat) : List (List UInt8) → Option (List Int)
  | [] => some []
  | w :: ws => match fndC n w with
    | none => none
    | some c => (fndW n ws).map (c :: ·)
theorem fndW_gd {n : Nat} (h1 : 1 ≤ n) (hn : n ≤ 7) : ∀ {ws : List (List UInt8)} {l : List Int}, fndW n ws = some l → ∀ c ∈ l, gdC n c
  | [], l, h => by cases h; simp
  | w :: ws, l, h => by
    unfold fndW at h
    cases hf : fndC n w with
    | none => rw [hf] at h; cases h
    | some d =>
      rw [hf] at h
      obtain ⟨l', h2, rfl⟩ := Option.map_eq_some_iff.1 h
      intro c hc
      rcases List.mem_cons.1 hc with rfl | hc
      · exact (mem_chg h1 hn c).1 (fndC_some hf).1
      · exact fndW_gd h1 hn h2 c hc
theorem fndW_wrt {n : Nat} (h1 : 1 ≤ n) (hn : n ≤ 7) : ∀ {l : List Int}, (∀ c ∈ l, gdC n c) → fndW n (l.map fun c => wrt n c.toNat) = some l
  | [], _ => rfl
  | c :: l, h => by
    rw [List.map_cons, fndW, fndC_wrt h1 hn (h c (by simp)), fndW_wrt h1 hn (fun d hd => h d (by simp [hd]))]
    rfl
theorem noted_eq {n : Nat} (h1 : 1 ≤ n) (hn : n ≤ 7) (s : List UInt8) : (match fndW n (tkn (apX s)) with | none => (([] : List Int), (8 : Int)) | some l => if txt n l = s then (l, 0) else ([], 8)) = if txt n (prsL n s) = s then (prsL n s, 0) else ([], 8) := by
  by_cases ht : txt n (prsL n s) = s
  · rw [if_pos ht]
    have hg : ∀ c ∈ prsL n s, gdC n c := prs_gd hn s _ _
    have e1 : tkn (apX s) = (prsL n s).map fun c => wrt n c.toNat := by
      have := tkn_txW ((prsL n s).map fun c => wrt n c.toNat) [120] (wrds hn hg)
      rw [← txt_W, ht] at this
      exact this
    rw [e1, fndW_wrt h1 hn hg]
    simp only
    rw [if_pos ht]
  · rw [if_neg ht]
    cases hf : fndW n (tkn (apX s)) with
    | none => rfl
    | some l =>
      simp only
      by_cases hl : txt n l = s
      · have hg := fndW_gd h1 hn hf
        have := prsL_txt h1 hn hg
        rw [hl] at this
        exact absurd (by rw [this]; exact hl) ht
      · rw [if_neg hl]
end Go.Proofs.YtkmkcbkfakoomaaDoor
