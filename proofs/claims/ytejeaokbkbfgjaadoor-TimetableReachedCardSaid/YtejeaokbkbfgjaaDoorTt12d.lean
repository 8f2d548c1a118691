/- PeTt12d -/
import Derived.Test.YtejeaokbkbfgjaaDoorX22
import Derived.Test.YtejeaokbkbfgjaaDoorTt11d
set_option linter.unusedSimpArgs false
set_option linter.unusedVariables false
set_option maxRecDepth 100000
namespace Go.Eng.Sv
open Go.Proofs

noncomputable def reachTo2 (n : Net) (line a b k : Int) (l : List Int) : Prop := fineF n line = true ∧ 0 ≤ a ∧ a ≤ 1000000 ∧ a < b ∧ b ≤ a + 86400 ∧ waitE n line a b = 0 ∧ l = [a - 1] ++ depsF n line a b ∧ 0 ≤ k ∧ k ≤ l.length
noncomputable def hitF (n : Net) (line b w : Int) (l : List Int) (k : Int) : Bool := (l.take k.toNat).any fun x => decide (departE n line (x + 1) = 0) && decide (x + 1 < b) && decide (departD n line (x + 1) - x - 1 = w)
noncomputable def reachedA (n : Net) (line a : Int) : Ann := ⟨fun id s => match id with
  | 11 => match s.sig.T 10, s.sig.T 13, s.sig.T 11 with
    | .dat (.int .i64) b, .dat (.sl (.int .i64)) l, .dat (.int .i64) w => some { α := Int, inv := fun k => reachTo2 n line a b k l, st := fun k => put s [(15, .dat I k), (14, .dat .bool (hitF n line b w l k))], μ := fun k => D.nat (D.sub (D.ilen l) k) }
    | _, _, _ => none
  | _ => none, fun id s => match id with
  | 9 => some (put (frz (allNames s) s) [(50, .top)])
  | _ => none, fun _ _ => none⟩
set_option maxRecDepth 100000 in
theorem vc_lreached (line a len : Int) (cs : List (Int × List Bool × List Int)) (ns os : List ByteArray) (fs : List Off) (ls : List Line) (ks : List Cla) (hvc :
    let c1 := (cs, ns, os, fs, ls, ks);
    let c2 := fineF c1 line;
    let c3 := D.not c2;
    let c4 := D.not c3;
    let c5 := D.cnd c3 true (D.lt a (0 : Int));
    let c6 := D.not c5;
    let c7 := D.cnd c5 true (D.gt a (1000000 : Int));
    let c8 := D.wrap IntKind.i64 (D.add a (1 : Int));
    let c9 := D.wrap IntKind.i64 (D.add c8 len);
    let c10 := waitE c1 line a c9;
    let c11 := D.ne c10 (0 : Int);
    let c12 := D.sub a (1 : Int);
    let c13 := [c12];
    let c14 := depsF c1 line a c9;
    let c15 := D.nadd (1) (D.len c14);
    let c16 := waitD c1 line a c9;
    let c17 := D.app c13 c14;
    let c18 := D.ilen c17; true = true ∧ (u16P len → True ∧ inR IntKind.i64 len ∧ True ∧ (c4 = true → c4 = true → c4 = true) ∧ (D.and true c4 = true → c4 = true) ∧
     (c6 = true → c6 = true → c6 = true) ∧ (D.and true c6 = true → c6 = true) ∧ (c7 = true → true = true ∧ True) ∧ (c7 = false → True ∧ (c11 = true → true = true ∧
     True) ∧ (c11 = false → inR IntKind.i64 c12 ∧ True ∧ D.len c13 = 1 ∧ D.nle (D.nmul c15 (8)) (140737488355328) ∧ D.nle c15 (9223372036854775807) ∧ cs = cs ∧ ns =
     ns ∧ os = os ∧ fs = fs ∧ ls = ls ∧ ks = ks ∧ line = line ∧ a = a ∧ len = len ∧ c1 = c1 ∧ false = false ∧ true = true ∧ c9 = c9 ∧ c16 = c16 ∧ c10 = c10 ∧ D.len
     c17 = c15 ∧ c17 = c17 ∧ true = true ∧ a = a ∧ c8 = c8 ∧ len = len ∧ len = len ∧ c9 = c9 ∧ cs = cs ∧ ns = ns ∧ os = os ∧ fs = fs ∧ ls = ls ∧ ks = ks ∧ line =
     line ∧ c2 = c2 ∧ c3 = c3 ∧ c3 = c3 ∧ c5 = c5 ∧ c5 = c5 ∧ c7 = c7 ∧ c16 = c16 ∧ c10 = c10 ∧ cs = cs ∧ ns = ns ∧ os = os ∧ fs = fs ∧ ls = ls ∧ ks = ks ∧ line =
     line ∧ a = a ∧ c9 = c9 ∧ c16 = c16 ∧ c10 = c10 ∧ c16 = c16 ∧ c10 = c10 ∧ c10 = c10 ∧ c11 = c11 ∧ a = a ∧ c12 = c12 ∧ cs = cs ∧ ns = ns ∧ os = os ∧ fs = fs ∧ ls
     = ls ∧ ks = ks ∧ line = line ∧ a = a ∧ c9 = c9 ∧ c14 = c14 ∧ D.len c17 = c15 ∧ c17 = c17 ∧ (∃ x, reachTo2 c1 line a c9 x c17 ∧ cs = cs ∧ ns = ns ∧ os = os ∧ fs
     = fs ∧ ls = ls ∧ ks = ks ∧ line = line ∧ a = a ∧ len = len ∧ c1 = c1 ∧ false = false ∧ true = true ∧ c9 = c9 ∧ c16 = c16 ∧ c10 = c10 ∧ c17 = c17 ∧ false = hitF
     c1 line c9 c16 c17 x ∧ (0 : Int) = x ∧ true = true ∧ a = a ∧ c8 = c8 ∧ len = len ∧ len = len ∧ c9 = c9 ∧ cs = cs ∧ ns = ns ∧ os = os ∧ fs = fs ∧ ls = ls ∧ ks =
     ks ∧ line = line ∧ c2 = c2 ∧ c3 = c3 ∧ c3 = c3 ∧ c5 = c5 ∧ c5 = c5 ∧ c7 = c7 ∧ c16 = c16 ∧ c10 = c10 ∧ cs = cs ∧ ns = ns ∧ os = os ∧ fs = fs ∧ ls = ls ∧ ks =
     ks ∧ line = line ∧ a = a ∧ c9 = c9 ∧ c16 = c16 ∧ c10 = c10 ∧ c16 = c16 ∧ c10 = c10 ∧ c10 = c10 ∧ c11 = c11 ∧ a = a ∧ c12 = c12 ∧ cs = cs ∧ ns = ns ∧ os = os ∧
     fs = fs ∧ ls = ls ∧ ks = ks ∧ line = line ∧ a = a ∧ c9 = c9 ∧ c14 = c14 ∧ c17 = c17 ∧ True) ∧ ∀ (x : Int),
    let c19 := D.get c17 (D.nat x) (0 : Int);
    let c20 := D.add c19 (1 : Int);
    let c21 := hitF c1 line c9 c16 c17 x;
    let c22 := D.not c21;
    let c23 := D.eq (departE c1 line c20) (0 : Int);
    let c24 := D.cnd c23 (D.lt c20 c9) false;
    let c25 := D.sub (departD c1 line c20) c19;
    let c26 := D.sub c25 (1 : Int);
    let c27 := D.add x (1 : Int); reachTo2 c1 line a c9 x c17 → (D.lt x c18 = true → D.ile (0 : Int) x ∧ D.ilt x c18 ∧ inR IntKind.i64 c20 ∧ True ∧ (c22 = true →
     c22 = true → c22 = true) ∧ (c22 = true → c22 = true → c22 = true) ∧ (D.and c22 c23 = true → D.and c22 c23 = true → D.and c22 c23 = true) ∧ (D.and c22 c23 =
     true → D.and c22 c23 = true → D.and c22 c23 = true) ∧ (D.and c22 c23 = true → D.ile (0 : Int) x) ∧ (D.and c22 c23 = true → D.ilt x c18) ∧ (D.and c22 c23 = true
     → D.and c22 c23 = true → D.and c22 c23 = true) ∧ (D.and c22 c23 = true → D.and c22 c23 = true → D.and c22 c23 = true) ∧ (D.and c22 c23 = true → inR IntKind.i64
     c20) ∧ (D.and c22 c23 = true → D.and c22 c23 = true → D.and c22 c23 = true) ∧ (D.and c22 c23 = true → D.and c22 c23 = true → D.and c22 c23 = true) ∧ (c22 =
     true → c22 = true → c22 = true) ∧ (c22 = true → D.and c22 c23 = true → D.and c22 c23 = true) ∧ (c22 = true → c22 = true → c22 = true) ∧ (D.and c22 c24 = true →
     D.and c22 c24 = true → D.and c22 c24 = true) ∧ (D.and c22 c24 = true → D.and c22 c24 = true → D.and c22 c24 = true) ∧ (D.and c22 c24 = true → D.ile (0 : Int)
     x) ∧ (D.and c22 c24 = true → D.ilt x c18) ∧ (D.and c22 c24 = true → D.and c22 c24 = true → D.and c22 c24 = true) ∧ (D.and c22 c24 = true → D.and c22 c24 = true
     → D.and c22 c24 = true) ∧ (D.and c22 c24 = true → D.and c22 c24 = true → D.and c22 c24 = true) ∧ (D.and c22 c24 = true → inR IntKind.i64 c25) ∧ (D.and c22 c24
     = true → D.and c22 c24 = true → D.and c22 c24 = true) ∧ (D.and c22 c24 = true → inR IntKind.i64 c26) ∧ (D.and c22 c24 = true → D.and c22 c24 = true → D.and c22
     c24 = true) ∧ (D.and c22 c24 = true → D.and c22 c24 = true → D.and c22 c24 = true) ∧ (c22 = true → c22 = true → c22 = true) ∧ (c22 = true → D.and c22 c24 =
     true → D.and c22 c24 = true) ∧ (D.and true c22 = true → c22 = true) ∧ inR IntKind.i64 c27 ∧ ∃ y, reachTo2 c1 line a c9 y c17 ∧ (cs = cs ∧ ns = ns ∧ os = os ∧
     fs = fs ∧ ls = ls ∧ ks = ks ∧ line = line ∧ a = a ∧ len = len ∧ c1 = c1 ∧ false = false ∧ true = true ∧ c9 = c9 ∧ c16 = c16 ∧ c10 = c10 ∧ c17 = c17 ∧ D.cnd c21
     true (D.cnd c24 (D.eq c26 c16) false) = hitF c1 line c9 c16 c17 y ∧ c27 = y ∧ true = true ∧ a = a ∧ c8 = c8 ∧ len = len ∧ len = len ∧ c9 = c9 ∧ cs = cs ∧ ns =
     ns ∧ os = os ∧ fs = fs ∧ ls = ls ∧ ks = ks ∧ line = line ∧ c2 = c2 ∧ c3 = c3 ∧ c3 = c3 ∧ c5 = c5 ∧ c5 = c5 ∧ c7 = c7 ∧ c16 = c16 ∧ c10 = c10 ∧ cs = cs ∧ ns =
     ns ∧ os = os ∧ fs = fs ∧ ls = ls ∧ ks = ks ∧ line = line ∧ a = a ∧ c9 = c9 ∧ c16 = c16 ∧ c10 = c10 ∧ c16 = c16 ∧ c10 = c10 ∧ c10 = c10 ∧ c11 = c11 ∧ a = a ∧
     c12 = c12 ∧ cs = cs ∧ ns = ns ∧ os = os ∧ fs = fs ∧ ls = ls ∧ ks = ks ∧ line = line ∧ a = a ∧ c9 = c9 ∧ c14 = c14 ∧ c17 = c17 ∧ True) ∧ D.nlt (D.nat (D.sub c18
     y)) (D.nat (D.sub c18 x))) ∧ (D.lt x c18 = false → (D.and true true = true → true = true) ∧ D.cnd true c21 false = true ∧ True))))) :
    evF { mkc KT16 with mb := fun t => t == 50 || t == 20 || t == 23 } (reachedA (cs, ns, os, fs, ls, ks) line a) 7 [net cs ns os fs ls ks, .dat I line, .dat I a, .dat U16 len] [] ⟨u16P len, .dat .bool true, []⟩ := of_eq (by kernel_rfl) hvc

theorem hit_next {n : Net} {line b w x : Int} {l : List Int} (x0 : 0 ≤ x) (x1 : x < l.length) : hitF n line b w l (x + 1) =
    (hitF n line b w l x || (decide (departE n line (l.getD x.toNat 0 + 1) = 0) && decide (l.getD x.toNat 0 + 1 < b) && decide (departD n line (l.getD x.toNat 0 + 1) - l.getD x.toNat 0 - 1 = w))) := by
  unfold hitF
  have hlt : x.toNat < l.length := by omega
  rw [show (x + 1).toNat = x.toNat + 1 by omega, List.take_add_one, List.getElem?_eq_getElem hlt, List.any_append, List.getD_eq_getElem?_getD, List.getElem?_eq_getElem hlt]
  simp
theorem t_lreached (line a len : Int) (cs : List (Int × List Bool × List Int)) (ns os : List ByteArray) (fs : List Off) (ls : List Line) (ks : List Cla) : SoundC Tryd.prog G0 7 [net cs ns os fs ls ks, .dat I line, .dat I a, .dat U16 len] [] ⟨u16P len, .dat .bool true, []⟩ := by
  refine sound_of_ev (c := { mkc KT16 with mb := fun t => t == 50 || t == 20 || t == 23 }) KST17 KI0s hm (vc_lreached line a len cs ns os fs ls ks ⟨rfl, fun hp => ?_⟩)
  dsimp only
  generalize hb : D.wrap IntKind.i64 (D.add (D.wrap IntKind.i64 (D.add a (1 : Int))) len) = b
  generalize hl : D.app [D.sub a (1 : Int)] (depsF (cs, ns, os, fs, ls, ks) line a b) = l
  simp only [cnd_or, cnd_and, D.and, D.or, D.not, Bool.true_and, Bool.and_true, Bool.false_or, Bool.or_false, eq_self, true_and, and_true, imp_self, implies_true, Bool.not_eq_true', Bool.or_eq_true, Bool.or_eq_false_iff, Bool.not_eq_false', Bool.and_eq_true, Bool.and_eq_false_imp, Bool.not_not, forall_const, exists_eq_right, exists_eq_right', exists_eq_left, exists_eq_left', Int.toNat_natCast, Nat.zero_add, Nat.mul_one, Int.ofNat_eq_natCast, D.nil, D.eq, D.ne, D.lt, D.gt, D.le, D.ge, D.beq, D.ilen, D.slen, D.ile, D.ilt, D.ine, D.nle, D.nlt, D.sub, D.add, D.mul, D.neg, D.nat, D.ofN, D.len, D.nadd, D.nmul, D.get, D.mn, D.mx, D.set, D.app, D.tail, D.part, D.seg, D.rep, D.at2, decide_eq_true_eq, decide_eq_false_iff_not, beq_iff_eq, bne_iff_ne, beq_eq_false_iff_ne, bne_eq_false_iff_eq, D.wrap, D.allNil]
  obtain ⟨p0, p1⟩ := hp
  refine ⟨in_small (by omega), ?_⟩
  rintro ⟨⟨hf, t0⟩, t1⟩ hE
  have hb : b = a + 1 + len := by
    rw [← hb]
    show IntKind.i64.wrap (IntKind.i64.wrap (a + 1) + len) = a + 1 + len
    rw [wrap_inR (k := .i64) (n := a + 1) (in_small (by omega)), wrap_inR (k := .i64) (n := a + 1 + len) (in_small (by omega))]
  have ha := line_at cs ns os fs ls ks (fine_parts cs ns os fs ls ks hf).1
  have hus := (fine_parts cs ns os fs ls ks hf).2
  have hok := wait_ok cs ns os fs ls ks (line := line) (a := a) (b := b) hf (by omega) (by omega) (by omega) (by omega)
  obtain ⟨_, hw⟩ := (wait_spec cs ns os fs ls ks hok).resolve_right (fun g => by rw [g.1] at hE; cases hE)
  have dl := deps_len cs ns os fs ls ks (line := line) (a := a) (b := b) hf (by omega) (by omega) (by omega) (by omega) (by omega)
  have hdo := depsOk_of cs ns os fs ls ks (line := line) (a := a) (b := b) hf (by omega) (by omega) (by omega) (by omega) (by omega)
  obtain ⟨_, s, u, s1, s2, s3, s4, s5⟩ := wait_some ha (by omega) hw
  have hsl : s - 1 ∈ [a - 1] ++ depsF (cs, ns, os, fs, ls, ks) line a b := by
    rcases s3 with rfl | ⟨s3, s6⟩
    · simp
    · exact List.mem_append.2 (.inr ((mem_deps ha hdo).2 ⟨s3, by omega, s6⟩))
  have hl : [a - 1] ++ depsF (cs, ns, os, fs, ls, ks) line a b = l := hl
  have hl1 : ([a - 1] ++ depsF (cs, ns, os, fs, ls, ks) line a b).length = 1 + (depsF (cs, ns, os, fs, ls, ks) line a b).length := by rw [List.length_append]; rfl
  have hin : ∀ x ∈ [a - 1] ++ depsF (cs, ns, os, fs, ls, ks) line a b, a - 1 ≤ x ∧ x < b := fun x hx => by
    rcases List.mem_append.1 hx with g | g
    · have := List.mem_singleton.1 g; omega
    · have := (mem_deps ha hdo).1 g; omega
  rw [hl] at hsl hl1 hin
  refine ⟨in_small (by omega), rfl, by omega, by omega, hl1, hl1, ⟨0, ⟨hf, by omega, by omega, by omega, by omega, hE, hl.symm, Int.le_refl _, Int.natCast_nonneg _⟩, rfl, rfl⟩, fun x hx => ?_⟩
  have x0 : 0 ≤ x := hx.2.2.2.2.2.2.2.1
  have x1 := hx.2.2.2.2.2.2.2.2
  refine ⟨fun hlt => ?_, fun hge => ?_⟩
  · have hg : l.getD x.toNat 0 = l[x.toNat]'(by omega) := by rw [List.getD_eq_getElem?_getD, List.getElem?_eq_getElem (by omega), Option.getD_some]
    obtain ⟨z1, z2⟩ := hin _ (hg ▸ List.getElem_mem (by omega) : l.getD x.toNat 0 ∈ l)
    have hd : departE (cs, ns, os, fs, ls, ks) line (l.getD x.toNat 0 + 1) = 0 → l.getD x.toNat 0 + 1 ≤ departD (cs, ns, os, fs, ls, ks) line (l.getD x.toNat 0 + 1) ∧ departD (cs, ns, os, fs, ls, ks) line (l.getD x.toNat 0 + 1) < l.getD x.toNat 0 + 1 + 86400 := fun h =>
      firstO_range (depart_some (hus [_] (time_ok (by omega) (by omega))) h)
    refine ⟨x0, hlt, in_small (by omega), fun _ => x0, fun _ => hlt, fun _ => in_small (by omega), fun _ => x0, fun _ => hlt, fun h => ?_, fun h => ?_, in_small (by omega), x + 1, ⟨hf, by omega, by omega, by omega, by omega, hE, hl.symm, by omega, by omega⟩, ⟨?_, rfl⟩, by omega⟩
    · have := hd h.2.1; exact in_small (by omega)
    · have := hd h.2.1; exact in_small (by omega)
    · rw [hit_next x0 hlt]; rfl
  · have hx2 : x = l.length := by omega
    unfold hitF
    rw [hx2, Int.toNat_natCast, List.take_length, List.any_eq_true]
    obtain ⟨k1, k2⟩ := depart_of (hus [s] (time_ok (by omega) (by omega))) s4
    refine ⟨s - 1, hsl, ?_⟩
    rw [show s - 1 + 1 = s by omega, k1, k2, decide_eq_true s2, decide_eq_true (show u - (s - 1) - 1 = waitD (cs, ns, os, fs, ls, ks) line a b by omega)]
    rfl
end Go.Eng.Sv
