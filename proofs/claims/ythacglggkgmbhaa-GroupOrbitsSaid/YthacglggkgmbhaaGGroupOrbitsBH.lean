/- permgroup: the chain in memory; sift. No condition of its own. -/
import Derived.Test.YthacglggkgmbhaaGGroupOrbitsBB
import Derived.Test.YthacglggkgmbhaaGGroupOrbitsBG
import Derived.Test.YthacglggkgmbhaaGGroupOrbitsAW
import Derived.Test.YthacglggkgmbhaaGGroupOrbitsAX
set_option linter.unusedVariables false
set_option linter.unusedSimpArgs false
namespace Go.Proofs.Ythacglggkgmbhaa
open Go.RowKit

def kL (L : List (Nat × Fn)) : List (List Int) := L.map fun x => [(x.1 : Int)]
def pL (n : Nat) (L : List (Nat × Fn)) : List PV := L.map fun x => pli (tabN n x.2)
def oL (L : List (Nat × Fn)) : List Int := L.map fun x => (x.1 : Int)
def gL (n : Nat) (l : List Fn) : List PV := l.map fun g => pli (tabN n g)
@[simp] theorem kL_len (L : List (Nat × Fn)) : (kL L).length = L.length := by simp [kL]
@[simp] theorem pL_len (n : Nat) (L : List (Nat × Fn)) : (pL n L).length = L.length := by simp [pL]
@[simp] theorem oL_len (L : List (Nat × Fn)) : (oL L).length = L.length := by simp [oL]
@[simp] theorem gL_len (n : Nat) (l : List Fn) : (gL n l).length = l.length := by simp [gL]
theorem kL_mem {L : List (Nat × Fn)} {x : Nat} : [(x : Int)] ∈ kL L ↔ ∃ u, (x, u) ∈ L := by
  unfold kL
  constructor
  · intro h
    obtain ⟨⟨y, u⟩, hy, e⟩ := List.mem_map.1 h
    simp only [List.cons.injEq, Int.natCast_inj, and_true] at e
    subst e
    exact ⟨u, hy⟩
  · rintro ⟨u, hu⟩
    exact List.mem_map.2 ⟨_, hu, rfl⟩
theorem look_some {n : Nat} {zp : PV} {x : Nat} {u : Fn} : ∀ {L : List (Nat × Fn)}, (L.map (·.1)).Nodup → (x, u) ∈ L → getP (kL L) (pL n L) [(x : Int)] zp = pli (tabN n u)
  | [], _, h => by cases h
  | (y, v) :: L, hn, h => by
    have hm := kL_mem.2 ⟨u, h⟩
    unfold getP
    rw [if_pos hm]
    by_cases c : y = x
    · subst c
      have : u = v := key_uniq hn h (by simp)
      subst this
      simp [kL, pL]
    · have h2 : (x, u) ∈ L := by
        rcases List.mem_cons.1 h with h | h
        · cases h; exact absurd rfl c
        · exact h
      simp only [List.map_cons, List.nodup_cons] at hn
      have ih := look_some (n := n) (zp := zp) hn.2 h2
      unfold getP at ih
      rw [if_pos (kL_mem.2 ⟨u, h2⟩)] at ih
      have e1 : (kL ((y, v) :: L)).idxOf [(x : Int)] = (kL L).idxOf [(x : Int)] + 1 := by
        show ([(y : Int)] :: kL L).idxOf _ = _
        rw [List.idxOf_cons, show ([(y : Int)] == [(x : Int)]) = false by simp; omega]
        rfl
      rw [e1]
      simpa [pL] using ih
theorem look_at {L : List (Nat × Fn)} (hn : (L.map (·.1)).Nodup) {k n : Nat} {zp : PV} (hk : k < L.length) : getP (kL L) (pL n L) [((L.getD k (0, id)).1 : Int)] zp = pli (tabN n (L.getD k (0, id)).2) :=
  look_some hn (mem_getD hk (0, id))
theorem ins_new {L : List (Nat × Fn)} {x n : Nat} {u : Fn} (h : ∀ w, (x, w) ∉ L) : insK (kL L) [(x : Int)] = kL (L ++ [(x, u)]) ∧ insP (kL L) (pL n L) [(x : Int)] (pli (tabN n u)) = pL n (L ++ [(x, u)]) := by
  have hm : [(x : Int)] ∉ kL L := fun hh => by obtain ⟨w, hw⟩ := kL_mem.1 hh; exact h w hw
  unfold insK insP
  rw [if_neg hm, if_neg hm]
  simp [kL, pL]
theorem oL_get {L : List (Nat × Fn)} {k : Nat} (hk : k < L.length) : (oL L).getD k 0 = ((L.getD k (0, id)).1 : Int) := by simp [oL, List.getD, hk]
/-- the chain, as it is handed on: its levels -/
def chn (n : Nat) (vt : Nat → Nat) : PV := .lst false 1 n ((List.range n).map fun i => PV.ptr (vt i) 0)
theorem chn_at {n i : Nat} {vt : Nat → Nat} (h : i < n) : (((List.range n).map fun i => PV.ptr (vt i) 0).drop ((i : Int).toNat * 1))[0]? = some (.ptr (vt i) 0) := by simp [h]
theorem then_p {n : Nat} {F G : Fn} (hF : Pe n F) (hn : n ≤ 9) : SC Try.prog 47 [pli (tabN n F), pli (tabN n G)] (pli (tabN n (cmp F G))) := then_s (F := F) (G := G) rfl rfl hF.lt hn hn
theorem back_p {n : Nat} {F : Fn} (hF : Pe n F) (hn : n ≤ 9) : SC Try.prog 48 [pli (tabN n F)] (pli (tabN n (iv n F))) :=
  pback_s (F := F) (G := iv n F) rfl hF.lt (fun i hi => ⟨hF.iv.lt i hi, congrFun (iv_r hF hn) i, congrFun (iv_l hF hn) i⟩) hn
/-- the levels in memory -/
structure CH (n m : Nat) (vt mt et : Nat → Nat) (R : Nat → List (Nat × Fn)) (S : Nat → List Fn) (h : HP) : Prop where
  v : ∀ i, i < m → h.blk (vt i) = some [.ref (et (2 * i)) 0 1 (S i).length, .mref (mt i), .ref (et (2 * i + 1)) 0 1 (R i).length]
  g : ∀ i, i < m → h.blk (et (2 * i)) = some (gL n (S i))
  o : ∀ i, i < m → h.blk (et (2 * i + 1)) = some (ints (oL (R i)))
  mp : ∀ i, i < m → h.sp (mt i) = some (.gmap .int (kL (R i)) (pL n (R i)))
  inj : ∀ a b, a < 2 * m → b < 2 * m → et a = et b → a = b
  vinj : ∀ a b, a < m → b < m → vt a = vt b → a = b
  minj : ∀ a b, a < m → b < m → mt a = mt b → a = b
  ev : ∀ a, a < 2 * m → et a % 2 = 0
  od : ∀ a, a < m → vt a % 2 = 1
  lte : ∀ a, a < 2 * m → et a < 2 * h.next
  ltv : ∀ a, a < m → vt a < 2 * h.next
  ltm : ∀ a, a < m → mt a < 2 * h.next
  nd : ∀ i, i < m → (S i).Nodup
theorem CH.turn {n : Nat} {vt mt et et' : Nat → Nat} {R R' : Nat → List (Nat × Fn)} {S S' : Nat → List Fn} {h X : HP} (H : CH n n vt mt et R S h) {j : Nat} (hj : j < n) (eR : ∀ i, i ≠ j → R' i = R i) (eS : ∀ i, i ≠ j → S' i = S i)
    (ee : ∀ a, a < 2 * n → a ≠ 2 * j → a ≠ 2 * j + 1 → et' a = et a) (hnx : h.next ≤ X.next)
    (hv : X.blk (vt j) = some [.ref (et' (2 * j)) 0 1 (S' j).length, .mref (mt j), .ref (et' (2 * j + 1)) 0 1 (R' j).length]) (hg : X.blk (et' (2 * j)) = some (gL n (S' j))) (ho : X.blk (et' (2 * j + 1)) = some (ints (oL (R' j)))) (hm : X.sp (mt j) = some (.gmap .int (kL (R' j)) (pL n (R' j))))
    (hvo : ∀ i, i < n → i ≠ j → X.blk (vt i) = h.blk (vt i)) (heo : ∀ a, a < 2 * n → a ≠ 2 * j → a ≠ 2 * j + 1 → X.blk (et a) = h.blk (et a)) (hmo : ∀ i, i < n → i ≠ j → X.sp (mt i) = h.sp (mt i))
    (hinj : ∀ a b, a < 2 * n → b < 2 * n → et' a = et' b → a = b) (hev : ∀ a, a < 2 * n → et' a % 2 = 0) (hlt : ∀ a, a < 2 * n → et' a < 2 * X.next) (hnd : (S' j).Nodup) : CH n n vt mt et' R' S' X := by
  refine ⟨fun i hi => ?_, fun i hi => ?_, fun i hi => ?_, fun i hi => ?_, hinj, H.vinj, H.minj, hev, H.od, hlt, fun a ha => by have := H.ltv a ha; omega, fun a ha => by have := H.ltm a ha; omega, fun i hi => ?_⟩
  · by_cases c : i = j
    · subst c; exact hv
    · rw [hvo i hi c, H.v i hi, eR i c, eS i c, ee _ (by omega) (by omega) (by omega), ee _ (by omega) (by omega) (by omega)]
  · by_cases c : i = j
    · subst c; exact hg
    · rw [ee _ (by omega) (by omega) (by omega), heo _ (by omega) (by omega) (by omega), H.g i hi, eS i c]
  · by_cases c : i = j
    · subst c; exact ho
    · rw [ee _ (by omega) (by omega) (by omega), heo _ (by omega) (by omega) (by omega), H.o i hi, eR i c]
  · by_cases c : i = j
    · subst c; exact hm
    · rw [hmo i hi c, H.mp i hi, eR i c]
  · by_cases c : i = j
    · subst c; exact hnd
    · rw [eS i c]; exact H.nd i hi
theorem ovr_inj {m a T : Nat} {et : Nat → Nat} {B : Nat} (hinj : ∀ x y, x < m → y < m → et x = et y → x = y) (hlt : ∀ x, x < m → et x < B) (hT : B ≤ T) : ∀ x y, x < m → y < m → ovr et a T x = ovr et a T y → x = y := fun x y hx hy e => by
  by_cases e1 : x = a
  · by_cases e2 : y = a
    · omega
    · rw [e1, ovr_same, ovr_ne _ _ e2] at e
      have := hlt y hy
      omega
  · by_cases e2 : y = a
    · rw [e2, ovr_same, ovr_ne _ _ e1] at e
      have := hlt x hx
      omega
    · rw [ovr_ne _ _ e1, ovr_ne _ _ e2] at e
      exact hinj x y hx hy e
theorem CH.pushR {n : Nat} {vt mt et : Nat → Nat} {R : Nat → List (Nat × Fn)} {S : Nat → List Fn} {h : HP} (H : CH n n vt mt et R S h) {j : Nat} (hj : j < n) (v : Fn) {T : Nat} (hT : T = 2 * h.next) :
    CH n n vt mt (ovr et (2 * j + 1) (2 * h.next)) (addR R j v) S ((((h.setS (mt j) (.gmap .int (kL (R j ++ [(v j, v)])) (pL n (R j ++ [(v j, v)])))).kill (et (2 * j + 1))).add false (ints (oL (R j) ++ [(v j : Int)]))).set (vt j) [.ref (et (2 * j)) 0 1 (S j).length, .mref (mt j), .ref T 0 1 ((R j).length + 1)]) := by
  subst hT
  have tn : ((h.setS (mt j) (.gmap .int (kL (R j ++ [(v j, v)])) (pL n (R j ++ [(v j, v)])))).kill (et (2 * j + 1))).tok false = 2 * h.next := HP.tokF _
  have hod := H.od j hj
  have hlv := H.ltv j hj
  have ob : ∀ t, t ≠ vt j → t < 2 * h.next → t ≠ et (2 * j + 1) → ((((h.setS (mt j) (.gmap .int (kL (R j ++ [(v j, v)])) (pL n (R j ++ [(v j, v)])))).kill (et (2 * j + 1))).add false (ints (oL (R j) ++ [(v j : Int)]))).set (vt j) [.ref (et (2 * j)) 0 1 (S j).length, .mref (mt j), .ref (2 * h.next) 0 1 ((R j).length + 1)]).blk t = h.blk t := fun t h1 h2 h3 =>
    (HP.set_other _ _ h1).trans ((HP.add_other _ _ _ (by rw [tn]; omega)).trans (HP.kill_other _ h3))
  have ne : ∀ a i, a < 2 * n → i < n → et a ≠ vt i := fun a i ha hi e => by have := H.ev a ha; have := H.od i hi; omega
  refine H.turn hj (fun i hi => addR_other _ _ hi) (fun _ _ => rfl) (fun a ha h1 h2 => ovr_ne _ _ h2) (Nat.le_succ _) ?_ ?_ ?_ (by rw [addR_same]; exact HP.setS_same h (mt j) _) (fun i hi hne => ?_) (fun a ha h1 h2 => ?_) (fun i hi hne => HP.setS_other _ _ (fun e => hne (H.minj i j hi hj e))) ?_ (fun a ha => ?_) (fun a ha => ?_) (H.nd j hj)
  · rw [ovr_ne _ _ (by omega), ovr_same, addR_same, List.length_append]
    exact HP.set_same _ _ _
  · rw [ovr_ne _ _ (by omega)]
    exact (ob _ (ne _ _ (by omega) hj) (H.lte _ (by omega)) (fun e => by have := H.inj _ _ (by omega) (by omega) e; omega)).trans (H.g j hj)
  · rw [ovr_same, addR_same]
    refine (HP.set_other _ _ (by omega)).trans ?_
    have := HP.add_same ((h.setS (mt j) (.gmap .int (kL (R j ++ [(v j, v)])) (pL n (R j ++ [(v j, v)])))).kill (et (2 * j + 1))) false (ints (oL (R j) ++ [(v j : Int)]))
    rw [tn] at this
    rw [this]
    simp [oL]
  · exact ob _ (fun e => hne (H.vinj i j hi hj e)) (H.ltv i hi) (fun e => ne _ _ (by omega) hi e.symm)
  · exact ob _ (ne _ _ ha hj) (H.lte a ha) (fun e => h2 (H.inj _ _ ha (by omega) e))
  · exact ovr_inj H.inj H.lte (Nat.le_refl _)
  · by_cases c : a = 2 * j + 1
    · rw [c, ovr_same]; omega
    · rw [ovr_ne _ _ c]; exact H.ev a ha
  · show _ < 2 * (h.next + 1)
    by_cases c : a = 2 * j + 1
    · rw [c, ovr_same]; omega
    · rw [ovr_ne _ _ c]; have := H.lte a ha; omega
theorem CH.pushS {n : Nat} {vt mt et : Nat → Nat} {R : Nat → List (Nat × Fn)} {S : Nat → List Fn} {h : HP} (H : CH n n vt mt et R S h) {j : Nat} (hj : j < n) (q : Fn) {T : Nat} (hT : T = 2 * h.next) (hq : q ∉ S j) :
    CH n n vt mt (ovr et (2 * j) (2 * h.next)) R (addS S j q) (((h.kill (et (2 * j))).add false (gL n (S j ++ [q]))).set (vt j) [.ref T 0 1 ((S j).length + 1), .mref (mt j), .ref (et (2 * j + 1)) 0 1 (R j).length]) := by
  subst hT
  have tn : (h.kill (et (2 * j))).tok false = 2 * h.next := HP.tokF _
  have hod := H.od j hj
  have hlv := H.ltv j hj
  have ob : ∀ t, t ≠ vt j → t < 2 * h.next → t ≠ et (2 * j) → (((h.kill (et (2 * j))).add false (gL n (S j ++ [q]))).set (vt j) [.ref (2 * h.next) 0 1 ((S j).length + 1), .mref (mt j), .ref (et (2 * j + 1)) 0 1 (R j).length]).blk t = h.blk t := fun t h1 h2 h3 =>
    (HP.set_other _ _ h1).trans ((HP.add_other _ _ _ (by rw [tn]; omega)).trans (HP.kill_other _ h3))
  have ne : ∀ a i, a < 2 * n → i < n → et a ≠ vt i := fun a i ha hi e => by have := H.ev a ha; have := H.od i hi; omega
  have es : addS S j q j = S j ++ [q] := if_pos rfl
  refine H.turn hj (fun _ _ => rfl) (fun i hi => if_neg hi) (fun a ha h1 h2 => ovr_ne _ _ h1) (Nat.le_succ _) ?_ ?_ ?_ (H.mp j hj) (fun i hi hne => ?_) (fun a ha h1 h2 => ?_) (fun i hi hne => rfl) ?_ (fun a ha => ?_) (fun a ha => ?_) ?_
  · rw [ovr_same, ovr_ne _ _ (show 2 * j + 1 ≠ 2 * j by omega), es, List.length_append]
    exact HP.set_same _ _ _
  · rw [ovr_same, es]
    refine (HP.set_other _ _ (by omega)).trans ?_
    have := HP.add_same (h.kill (et (2 * j))) false (gL n (S j ++ [q]))
    rw [tn] at this
    exact this
  · rw [ovr_ne _ _ (by omega)]
    exact (ob _ (ne _ _ (by omega) hj) (H.lte _ (by omega)) (fun e => by have := H.inj _ _ (by omega) (by omega) e; omega)).trans (H.o j hj)
  · exact ob _ (fun e => hne (H.vinj i j hi hj e)) (H.ltv i hi) (fun e => ne _ _ (by omega) hi e.symm)
  · exact ob _ (ne _ _ ha hj) (H.lte a ha) (fun e => h1 (H.inj _ _ ha (by omega) e))
  · exact ovr_inj H.inj H.lte (Nat.le_refl _)
  · by_cases c : a = 2 * j
    · rw [c, ovr_same]; omega
    · rw [ovr_ne _ _ c]; exact H.ev a ha
  · show _ < 2 * (h.next + 1)
    by_cases c : a = 2 * j
    · rw [c, ovr_same]; omega
    · rw [ovr_ne _ _ c]; have := H.lte a ha; omega
  · rw [es, List.nodup_append]
    refine ⟨H.nd j hj, by simp, fun a ha b hb => ?_⟩
    simp only [List.mem_singleton] at hb
    subst hb
    exact fun e => hq (e ▸ ha)
set_option maxHeartbeats 8000000 in
set_option maxRecDepth 100000 in
theorem sift_e {n : Nat} (hn : n ≤ 9) {vt mt et : Nat → Nat} {R : Nat → List (Nat × Fn)} {S : Nat → List Fn} {i0 : Nat} {p : Fn} {h : HP} (H : CH n n vt mt et R S h) (G : Good n R S i0) (hi0 : i0 ≤ n) (hp : Pe n p) (hf : ∀ k, k < i0 → p k = k) :
    SChE Try.prog 35 [chn n vt, pli (tabN n p), pint i0] h (fun r h' => h' = h ∧ ∃ (i : Nat) (q : Fn), r = .tup [pli (tabN n q), pint i] ∧ Sg n R S i0 p i q ∧ (i < n → ∀ u, (q i, u) ∉ R i)) := by
  refine SChE.go {} tok mixed Try.func35 rfl rfl Try.ntmps35 rfl rfl (by kernel_rfl) (fun hw => ?_)
  first | simp only [updS] | simp only [updL, Nat.reduceAdd]
  repeat (first | refine S0 ?_ | refine S1 ?_ | refine S2 ?_ | refine S3 ?_ | refine S4 ?_ | refine S5 ?_ | refine S6 ?_ | refine S7 ?_ | refine S8 ?_ | refine S9 ?_ | refine S10 ?_ | refine S11 ?_ | refine S12 ?_ | refine S13 ?_ | refine S15 ?_ | refine S16 ?_ | refine S19 ?_ | refine S20 ?_ | refine S21 ?_ | refine S22 ?_ | refine S23 ?_ | refine S25 ?_ | refine S26 ?_ | refine S34 ?_ | refine S36 ?_ | refine S45 ?_ | refine S46 ?_ | refine S67 ?_ | refine S92 ?_)
  refine CW.loopS (fun i : Nat × Fn => Sg n R S i0 p i.1 i.2) (fun i => [(0, chn n vt), (1, pli (tabN n i.2)), (2, pint i.1)]) (fun _ hp => hp = h) (fun i => n - i.1) (i0, p) ⟨Sg.start hi0 hp hf, SLx, rfl⟩ ?_
  rintro ⟨i, q⟩ t hp' s rfl
  simp only at s
  first | simp only [updS] | simp only [updL, Nat.reduceAdd]
  have hge := s.ge
  have hle := s.le
  by_cases c : i < n
  · have hv := H.v i c
    have hm := H.mp i c
    have hq := tabN_get (F := q) c
    have hl := tab_len n q
    repeat (first | refine S0 ?_ | refine S1 ?_ | refine S2 ?_ | refine S3 ?_ | refine S4 ?_ | refine S5 ?_ | refine S6 ?_ | refine S7 ?_ | refine S8 ?_ | refine S9 ?_ | refine S10 ?_ | refine S11 ?_ | refine S12 ?_ | refine S13 ?_ | refine S15 ?_ | refine S16 ?_ | refine S19 ?_ | refine S20 ?_ | refine S21 ?_ | refine S22 ?_ | refine S23 ?_ | refine S25 ?_ | refine S26 ?_ | refine S34 ?_ | refine S36 ?_ | refine S45 ?_ | refine S46 ?_ | refine S67 ?_ | refine S92 ?_)
    refine AW.ldl EVx rfl (p := .ptr (vt i) 0) (chn_at c) ?_
    repeat (first | refine S0 ?_ | refine S1 ?_ | refine S2 ?_ | refine S3 ?_ | refine S4 ?_ | refine S5 ?_ | refine S6 ?_ | refine S7 ?_ | refine S8 ?_ | refine S9 ?_ | refine S10 ?_ | refine S11 ?_ | refine S12 ?_ | refine S13 ?_ | refine S15 ?_ | refine S16 ?_ | refine S19 ?_ | refine S20 ?_ | refine S21 ?_ | refine S22 ?_ | refine S23 ?_ | refine S25 ?_ | refine S26 ?_ | refine S34 ?_ | refine S36 ?_ | refine S45 ?_ | refine S46 ?_ | refine S67 ?_ | refine S92 ?_)
    rw [hq]
    repeat (first | refine S0 ?_ | refine S1 ?_ | refine S2 ?_ | refine S3 ?_ | refine S4 ?_ | refine S5 ?_ | refine S6 ?_ | refine S7 ?_ | refine S8 ?_ | refine S9 ?_ | refine S10 ?_ | refine S11 ?_ | refine S12 ?_ | refine S13 ?_ | refine S15 ?_ | refine S16 ?_ | refine S19 ?_ | refine S20 ?_ | refine S21 ?_ | refine S22 ?_ | refine S23 ?_ | refine S25 ?_ | refine S26 ?_ | refine S34 ?_ | refine S36 ?_ | refine S45 ?_ | refine S46 ?_ | refine S67 ?_ | refine S92 ?_)
    by_cases hu : ∃ u, (q i, u) ∈ R i
    · obtain ⟨u, hu⟩ := hu
      have hu2 := kL_mem.2 ⟨u, hu⟩
      have L := G.lv i hge c
      rw [look_some L.nd hu]
      have hup := (L.r _ _ hu).1
      repeat (first | refine S0 ?_ | refine S1 ?_ | refine S2 ?_ | refine S3 ?_ | refine S4 ?_ | refine S5 ?_ | refine S6 ?_ | refine S7 ?_ | refine S8 ?_ | refine S9 ?_ | refine S10 ?_ | refine S11 ?_ | refine S12 ?_ | refine S13 ?_ | refine S15 ?_ | refine S16 ?_ | refine S19 ?_ | refine S20 ?_ | refine S21 ?_ | refine S22 ?_ | refine S23 ?_ | refine S25 ?_ | refine S26 ?_ | refine S34 ?_ | refine S36 ?_ | refine S45 ?_ | refine S46 ?_ | refine S67 ?_ | refine S92 ?_)
      refine Scall (args := [pli (tabN n u)]) (back_p hup hn) ?_
      repeat (first | refine S0 ?_ | refine S1 ?_ | refine S2 ?_ | refine S3 ?_ | refine S4 ?_ | refine S5 ?_ | refine S6 ?_ | refine S7 ?_ | refine S8 ?_ | refine S9 ?_ | refine S10 ?_ | refine S11 ?_ | refine S12 ?_ | refine S13 ?_ | refine S15 ?_ | refine S16 ?_ | refine S19 ?_ | refine S20 ?_ | refine S21 ?_ | refine S22 ?_ | refine S23 ?_ | refine S25 ?_ | refine S26 ?_ | refine S34 ?_ | refine S36 ?_ | refine S45 ?_ | refine S46 ?_ | refine S67 ?_ | refine S92 ?_)
      refine Scall (args := [pli (tabN n q), pli (tabN n (iv n u))]) (then_p s.pe hn) ?_
      repeat (first | refine S0 ?_ | refine S1 ?_ | refine S2 ?_ | refine S3 ?_ | refine S4 ?_ | refine S5 ?_ | refine S6 ?_ | refine S7 ?_ | refine S8 ?_ | refine S9 ?_ | refine S10 ?_ | refine S11 ?_ | refine S12 ?_ | refine S13 ?_ | refine S15 ?_ | refine S16 ?_ | refine S19 ?_ | refine S20 ?_ | refine S21 ?_ | refine S22 ?_ | refine S23 ?_ | refine S25 ?_ | refine S26 ?_ | refine S34 ?_ | refine S36 ?_ | refine S45 ?_ | refine S46 ?_ | refine S67 ?_ | refine S92 ?_)
      exact ⟨(i + 1, cmp q (iv n u)), s.step hn G c hu, SLx, rfl, by simp only; omega⟩
    · have hu2 : [(q i : Int)] ∉ kL (R i) := fun h => hu (kL_mem.1 h)
      repeat (first | refine S0 ?_ | refine S1 ?_ | refine S2 ?_ | refine S3 ?_ | refine S4 ?_ | refine S5 ?_ | refine S6 ?_ | refine S7 ?_ | refine S8 ?_ | refine S9 ?_ | refine S10 ?_ | refine S11 ?_ | refine S12 ?_ | refine S13 ?_ | refine S15 ?_ | refine S16 ?_ | refine S19 ?_ | refine S20 ?_ | refine S21 ?_ | refine S22 ?_ | refine S23 ?_ | refine S25 ?_ | refine S26 ?_ | refine S34 ?_ | refine S36 ?_ | refine S45 ?_ | refine S46 ?_ | refine S67 ?_ | refine S92 ?_)
      refine ⟨.inr rfl, _, ⟨_, rfl, _, rfl, rfl⟩, rfl, i, q, rfl, s, fun _ u h => hu ⟨u, h⟩⟩
  · obtain rfl : i = n := by omega
    repeat (first | refine S0 ?_ | refine S1 ?_ | refine S2 ?_ | refine S3 ?_ | refine S4 ?_ | refine S5 ?_ | refine S6 ?_ | refine S7 ?_ | refine S8 ?_ | refine S9 ?_ | refine S10 ?_ | refine S11 ?_ | refine S12 ?_ | refine S13 ?_ | refine S15 ?_ | refine S16 ?_ | refine S19 ?_ | refine S20 ?_ | refine S21 ?_ | refine S22 ?_ | refine S23 ?_ | refine S25 ?_ | refine S26 ?_ | refine S34 ?_ | refine S36 ?_ | refine S45 ?_ | refine S46 ?_ | refine S67 ?_ | refine S92 ?_)
    exact ⟨.inr rfl, _, ⟨_, rfl, _, rfl, rfl⟩, rfl, i, q, rfl, s, fun h => absurd h (Nat.lt_irrefl _)⟩
end Go.Proofs.Ythacglggkgmbhaa
