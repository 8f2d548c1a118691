/- PeTr5t -/
import Derived.Test.YtgphkkpblecfgabGreatDoorY22
import Derived.Test.YtgphkkpblecfgabGreatDoorTr4t
set_option linter.unusedSimpArgs false
set_option linter.unusedVariables false
set_option maxRecDepth 100000
noncomputable section
namespace Go.Eng.Sv
open Go.Proofs
def wayOk (n : Net) (nx : List (List Int)) (o to t : Int) : Bool := (idxF o n.2.2.2.1.length && idxF to n.2.2.2.1.length && timeOk t) && (soundF n && tabF n nx)
def WayL (n : Net) (nx : List (List Int)) (o to t : Int) : List Stop := if wayOk n nx o to t = true then wayL n nx o to t else []
def WayE (n : Net) (nx : List (List Int)) (o to t : Int) : Int := if wayOk n nx o to t = true then wayE n nx o to t else 1
def codeK (args : List AV) (m : Mem) : Option CRes := match args, m with
  | [.ifc t (.dat (.int .i64) e)], [] => if t = 40 then some ⟨True, .dat I e, []⟩ else none
  | _, _ => none
def KR5 : Kt := kOr 34 codeK <|
  kOr 40 (dataK [.ptr N, .val M, .val I, .val I, .val I] (fun (n, nx, o, to, t, _) => wayP n nx o to t ∧ isZero (wayE n nx o to t) = true) fun (n, nx, o, to, t, _) => .dat (.sl Stp) (wayL n nx o to t)) KR4
def KPw : KPt := pOr 40 (dataP [.ptr N, .val M, .val I, .val I, .val I] fun (n, nx, o, to, t, _) => ⟨wayP n nx o to t, isZero (wayE n nx o to t), errV 40 (wayE n nx o to t)⟩) <|
  pOr 35 (dataP [.val .bool] fun (b, _) => ⟨True, b, errV 40 1⟩) KPm
def cY : Cfg := mkp KR5 (fun _ => false) KPw (fun f => f == 40 || f == 35)
theorem vc_pway (nx : List (List Int)) (o to t : Int) (cs : LC) (ns os : LB) (fs : List Off) (ls : List Line) (ks : List Cla) (hvc :
 let c1 := D.ilen fs;
 let c2 := idxF o c1;
 let c3 := D.cnd c2 (idxF to c1) false;
 let c4 := D.cnd c3 (timeOk t) false;
 let c5 := (cs, ns, os, fs, ls, ks);
 let c6 := WayL c5 nx o to t;
 let c7 := WayE c5 nx o to t;
 let c8 := soundF c5;
 let c9 := D.cnd c8 (tabF c5 nx) false;
 let c10 := wayE c5 nx o to t;
 let c11 := isZero c10; (false = false ∧ true = true) ∧ (fitsM nx → true = true ∧ True ∧ (c2 = true → c2 = true → c2 = true) ∧ (c2 = true → c2 = true → c2 =
  true) ∧ (c2 = true → c2 = true → c2 = true) ∧ (c2 = true → c2 = true → c2 = true) ∧ (c2 = true → True) ∧ (D.and true c2 = true → c2 = true) ∧ (c3 = true → c3 =
  true → c3 = true) ∧ (c3 = true → True) ∧ (D.and true c3 = true → c3 = true) ∧ (true = true → True ∧ (c4 = false → true = true ∧ true = true ∧ (D.not false =
  true → True ∧ 1 = 1 ∧ 0 = 0 ∧ 1 = 1 ∧ 0 = 0 ∧ 1 = 1 ∧ 0 = 0 ∧ 1 = 1 ∧ 0 = 0 ∧ c6 = D.nil (Int × Int × Int × Int) ∧ (1 : Int) = c7 ∧ True) ∧ (D.not false =
  false → 1 = 1 ∧ 0 = 0 ∧ 1 = 1 ∧ 0 = 0 ∧ c6 = D.nil (Int × Int × Int × Int) ∧ (0 : Int) = c7 ∧ True))) ∧ ((true = true → c4 = true) → (True ∧ c4 = true) ∧ True
  ∧ (c8 = true → c8 = true → c8 = true) ∧ (c8 = true → fitsM nx) ∧ (D.and true c8 = true → c8 = true) ∧ (true = true → True ∧ (c9 = false → true = true ∧ true =
  true ∧ (D.not false = true → True ∧ 1 = 1 ∧ 0 = 0 ∧ 1 = 1 ∧ 0 = 0 ∧ 1 = 1 ∧ 0 = 0 ∧ 1 = 1 ∧ 0 = 0 ∧ c6 = D.nil (Int × Int × Int × Int) ∧ (1 : Int) = c7 ∧ True)
  ∧ (D.not false = false → 1 = 1 ∧ 0 = 0 ∧ 1 = 1 ∧ 0 = 0 ∧ c6 = D.nil (Int × Int × Int × Int) ∧ (0 : Int) = c7 ∧ True))) ∧ ((true = true → c9 = true) → (True ∧
  c9 = true) ∧ (true = true → wayP c5 nx o to t ∧ (c11 = false → true = true ∧ true = true ∧ (D.not false = true → True ∧ 1 = 1 ∧ 0 = 0 ∧ 1 = 1 ∧ 0 = 0 ∧ 1 = 1 ∧
  0 = 0 ∧ 1 = 1 ∧ 0 = 0 ∧ c6 = D.nil (Int × Int × Int × Int) ∧ c10 = c7 ∧ True) ∧ (D.not false = false → 1 = 1 ∧ 0 = 0 ∧ 1 = 1 ∧ 0 = 0 ∧ c6 = D.nil (Int × Int ×
  Int × Int) ∧ (0 : Int) = c7 ∧ True))) ∧ ((true = true → c11 = true) → (wayP c5 nx o to t ∧ c11 = true) ∧ 1 = 1 ∧ 0 = 0 ∧ 1 = 1 ∧ 0 = 0 ∧ true = true ∧ true =
  true ∧ (D.not true = true → False) ∧ (D.not true = false → 1 = 1 ∧ 0 = 0 ∧ 1 = 1 ∧ 0 = 0 ∧ wayL c5 nx o to t = c6 ∧ (0 : Int) = c7 ∧ True)))))) :
    evG cY noAnn noAnn 14 [net cs ns os fs ls ks, .dat M nx, .dat I o, .dat I to, .dat I t] ⟨fitsM nx, .tup [.dat (.sl Stp) (WayL (cs, ns, os, fs, ls, ks) nx o to t), .dat I (WayE (cs, ns, os, fs, ls, ks) nx o to t)], []⟩ := @of_eq _ _ (by kernel_rfl) hvc
theorem codeK_ok : ∀ args m c, codeK args m = some c → SoundC Tryz.prog G0 34 args m c := by
  intro args m c h
  unfold codeK at h
  split at h
  · split at h
    · rename_i e
      subst e
      cases h
      exact t_pcode _
    · cases h
  · cases h
theorem KSR5 : KSound Tryz.prog G0 KR5 := kOr_ok codeK_ok <| kOr_ok (dataK_ok fun ((cs, ns, os, fs, ls, ks), nx, o, to, t, _) => (t_pwalk nx o to t cs ns os fs ls ks).1) KSR4
theorem KPw_ok : KPSound Tryz.prog G0 KPw := pOr_ok (dataP_ok fun ((cs, ns, os, fs, ls, ks), nx, o, to, t, _) => (t_pwalk nx o to t cs ns os fs ls ks).2) <| pOr_ok (dataP_ok fun (b, _) => (t_pdemand b).2) KPm_ok
theorem way_nil {n : Net} {nx : List (List Int)} {to : Int} (k : Nat) (o t : Int) (h : (wayN n nx to k o t).2 ≠ 0) : (wayN n nx to k o t).1 = [] := by
  by_cases h0 : o = to
  · rw [way_to k h0] at h; exact absurd rfl h
  · by_cases h1 : nxt nx o to = -1
    · rw [way_route k h0 h1]
    · by_cases h2 : depE n (nxt nx o to) (readyF n o t) = 0
      · cases k with
        | zero => rw [way_full h0 h1 h2]
        | succ k =>
          rw [way_next k h0 h1 h2] at h ⊢
          unfold preW at h ⊢
          split
          · rename_i h3; rw [if_pos h3] at h; exact absurd rfl h
          · rfl
      · rw [way_err k h0 h1 h2]
theorem idxF_iff {i l : Int} : idxF i l = true ↔ 0 ≤ i ∧ i < l := by unfold idxF; simp
theorem wayOk_iff {n : Net} {nx : List (List Int)} {o to t : Int} : wayOk n nx o to t = true ↔ (((0 ≤ o ∧ o < n.2.2.2.1.length) ∧ (0 ≤ to ∧ to < n.2.2.2.1.length)) ∧ (0 ≤ t ∧ t ≤ 2000000)) ∧ soundF n = true ∧ tabF n nx = true := by
  unfold wayOk timeOk
  simp only [Bool.and_eq_true, idxF_iff, decide_eq_true_eq]
theorem t_pway (nx : List (List Int)) (o to t : Int) (cs : LC) (ns os : LB) (fs : List Off) (ls : List Line) (ks : List Cla) : SoundC Tryz.prog G0 14 [net cs ns os fs ls ks, .dat M nx, .dat I o, .dat I to, .dat I t] [] ⟨fitsM nx, .tup [.dat (.sl Stp) (WayL (cs, ns, os, fs, ls, ks) nx o to t), .dat I (WayE (cs, ns, os, fs, ls, ks) nx o to t)], []⟩ := by
  refine sound_of_evG (c := cY) KSR5 KI0s hm KPw_ok (vc_pway nx o to t cs ns os fs ls ks ⟨⟨rfl, rfl⟩, fun hp => ?_⟩)
  have hW1 : wayOk (cs, ns, os, fs, ls, ks) nx o to t = true → WayL (cs, ns, os, fs, ls, ks) nx o to t = wayL (cs, ns, os, fs, ls, ks) nx o to t ∧ WayE (cs, ns, os, fs, ls, ks) nx o to t = wayE (cs, ns, os, fs, ls, ks) nx o to t := fun h => ⟨if_pos h, if_pos h⟩
  have hW0 : wayOk (cs, ns, os, fs, ls, ks) nx o to t = false → WayL (cs, ns, os, fs, ls, ks) nx o to t = [] ∧ WayE (cs, ns, os, fs, ls, ks) nx o to t = 1 := fun h => ⟨if_neg (by simp [h]), if_neg (by simp [h])⟩
  simp only [cnd_or, cnd_and, D.and, D.or, D.not, Bool.true_and, Bool.and_true, Bool.false_or, Bool.or_false, eq_self, true_and, and_true, imp_self, implies_true, Bool.not_eq_true', Bool.or_eq_true, Bool.or_eq_false_iff, Bool.not_eq_false', Bool.and_eq_true, Bool.and_eq_false_imp, Bool.not_not, forall_const, exists_eq_right, exists_eq_right', exists_eq_left, exists_eq_left', Int.toNat_natCast, Nat.zero_add, Nat.mul_one, Int.ofNat_eq_natCast, D.nil, D.eq, D.ne, D.lt, D.gt, D.le, D.ge, D.beq, D.ilen, D.slen, D.ile, D.ilt, D.ine, D.nle, D.nlt, D.sub, D.add, D.mul, D.neg, D.nat, D.ofN, D.len, D.nadd, D.nmul, D.get, D.mn, D.mx, D.set, D.app, D.tail, D.part, D.seg, D.rep, D.at2, decide_eq_true_eq, decide_eq_false_iff_not, beq_iff_eq, bne_iff_ne, beq_eq_false_iff_ne, bne_eq_false_iff_eq, D.wrap, D.allNil]
  have no : wayOk (cs, ns, os, fs, ls, ks) nx o to t = false → (WayL (cs, ns, os, fs, ls, ks) nx o to t = [] ∧ 1 = WayE (cs, ns, os, fs, ls, ks) nx o to t) ∧ (false = true → WayL (cs, ns, os, fs, ls, ks) nx o to t = [] ∧ 0 = WayE (cs, ns, os, fs, ls, ks) nx o to t) := fun h => by
    obtain ⟨h1, h2⟩ := hW0 h
    exact ⟨⟨h1, h2.symm⟩, fun h => by cases h⟩
  refine ⟨fun h => no ?_, fun hi => ⟨hi, fun _ => hp, fun h => no ?_, fun hs => ?_⟩⟩
  · unfold wayOk
    show (idxF o fs.length && idxF to fs.length && timeOk t && _) = false
    cases h1 : idxF o fs.length <;> cases h2 : idxF to fs.length <;> simp
    rw [h ⟨h1, h2⟩]; simp
  · unfold wayOk
    cases h1 : soundF (cs, ns, os, fs, ls, ks)
    · simp
    · rw [h h1]; simp
  · have hok : wayOk (cs, ns, os, fs, ls, ks) nx o to t = true := by
      unfold wayOk
      show (idxF o fs.length && idxF to fs.length && timeOk t && _) = true
      rw [hi.1.1, hi.1.2, hi.2, hs.1, hs.2]; rfl
    obtain ⟨e1, e2⟩ := hW1 hok
    obtain ⟨⟨⟨⟨o0, o1⟩, ⟨d0, d1⟩⟩, ⟨t0, t1⟩⟩, q1, q2⟩ := wayOk_iff.1 hok
    have hw : wayP (cs, ns, os, fs, ls, ks) nx o to t := ⟨q1, q2, o0, o1, d0, d1, t0, by omega⟩
    rw [e1, e2]
    refine ⟨hs, ⟨hw, fun hz => ⟨⟨way_nil 19 o t (isZero_not.1 hz), rfl⟩, fun h => by cases h⟩⟩, fun hz => ⟨⟨hw, hz⟩, ⟨(fun h => by cases h), rfl, (isZero_iff.1 hz).symm⟩⟩⟩
end Go.Eng.Sv
