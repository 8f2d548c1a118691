/- PeTr8t -/
import Derived.Test.YtgphkkpblecfgabGreatDoorY22
import Derived.Test.YtgphkkpblecfgabGreatDoorTrGt
set_option linter.unusedSimpArgs false
set_option linter.unusedVariables false
set_option maxRecDepth 100000
noncomputable section
namespace Go.Eng.Sv
open Go.Proofs
def growP (k : Int) : Prop := 0 ≤ k ∧ k ≤ 1000000
def ccP (a b : List Stop) : Prop := a.length ≤ 1000 ∧ b.length ≤ 1000
def ccS (a b : List Stop) (k : Int) : Int := if k = 0 then 0 else if k = 1 then a.length else a.length + b.length
def ccL (a b : List Stop) (k : Int) : List Stop := if k = 0 then [] else if k = 1 then a else a ++ b
def to2 (k : Int) : Prop := 0 ≤ k ∧ k ≤ 2
def KIR2 : FuncId → List AV → Option IRes := fun f caps => match f, caps with
  | 90, [.ip (.int .i64) o, .ip (.int .i64) to, .ipv (.ip (.pair (.int .i64) (.pair (.int .i64) (.pair (.sl (.sl (.int .i64))) (.sl (.sl (.sl (.int .i64))))))) p), .ipv (.ip (.pair (.sl (.pair (.int .i64) (.pair (.sl .bool) (.sl (.int .i64))))) (.pair (.sl .str) (.pair (.sl .str) (.pair (.sl (.pair .str (.pair (.int .i64) (.pair (.int .i64) (.pair (.int .i64) (.pair (.int .i64) (.pair (.int .i64) (.sl .str)))))))) (.pair (.sl (.pair .str (.pair (.int .i64) (.pair (.int .i64) (.pair (.int .i64) (.pair (.int .i64) (.int .i64))))))) (.sl (.pair .str (.pair (.int .i64) (.int .i64))))))))) n)] => some ⟨passP n p.2.2.1 o to, I, passL n p.2.2.1 o to⟩
  | _, _ => none
def KR10 : Kt := kOr 30 (dataK [.ptr N, .ptr Pl] (fun (_, p, _) => fitsM p.2.2.1) fun (n, p, _) => .dat .bool (usF n p.2.2.1)) <|
  kOr 42 (dataK [.ptr N, .ptr N] (fun (n, _) => oFits n.2.2.2.1) fun (n, m, _) => .dat .bool (alikeO n.2.2.2.1 m.2.2.2.1)) <|
  kOr 32 (dataK [.val (.sl Stp), .val I] (fun (l, _) => sFits l) fun (l, t, _) => .dat I (sIdx t l)) <|
  kOr 28 (dataK [.ptr N, .row Po, .val I] (fun (n, x, t, _) => True ∧ postOk n x t = true) fun _ => .tup []) <|
  kOr 31 (dataK [.row N, .row Pl, .val I, .val I, .val I] (fun (n, p, o, to, t, _) => fitsM p.2.2.1 ∧ isZero (WayE n p.2.2.1 o to t) = true) fun (n, p, o, to, t, _) => .dat (.sl Stp) (WayL n p.2.2.1 o to t)) <|
  kOr 64 (dataK [.ptr N, .ptr Pl, .val I, .val I] (fun _ => True) fun (n, p, o, to, _) => .fn 90 [.ip I o, .ip I to, .ipv (.ip Pl p), .ipv (.ip N n)]) KR9
noncomputable def mkr2 (K : Kt) (KP : KPt) (pf : FuncId → Bool) : Cfg := ⟨Tryz.prog, G0, K, fun _ => false, KIR2, true, KP, pf⟩
def leadsA (n : Net) (nx : List (List Int)) (o to : Int) : Ann := ⟨fun id s => match id with
  | 2 => some { α := Nat, inv := fun k => leadsTo n nx o to k, st := fun _ => flat s, μ := fun k => k }
  | _ => none, fun _ _ => none, fun _ _ => none⟩
theorem vc_leads (o to : Int) (p1 p2 : Int) (nx : List (List Int)) (dy : List (List (List Int))) (cs : LC) (ns os : LB) (fs : List Off) (ls : List Line) (ks : List Cla) (hvc :
 let c1 := (cs, ns, os, fs, ls, ks);
 let c2 := (p1, p2, nx, dy);
 let c3 := passL c1 nx o to;
 let c4 := leadsF c1 nx o to; true = true ∧ (passP c1 nx o to → True ∧ passP c1 nx o to ∧ (∃ x, leadsTo c1 nx o to x ∧ x = 0 ∧ c1 = c1 ∧ c2 = c2 ∧ o = o ∧ to =
  to ∧ to = to ∧ 1 = 1 ∧ 0 = 0 ∧ 0 = 0 ∧ c1 = c1 ∧ c2 = c2 ∧ o = o ∧ to = to ∧ o = o ∧ to = to ∧ c2 = c2 ∧ c1 = c1 ∧ false = false ∧ True) ∧ (∀ (x : Nat) (y :
  Int), leadsTo c1 nx o to x → isAt c3 x y → (D.eq y to = true → 1 = 1 ∧ 0 = 0 ∧ 1 = 1 ∧ 0 = 0 ∧ true = c4 ∧ True) ∧ (D.eq y to = false → ∃ z, leadsTo c1 nx o to
  z ∧ z = D.nadd x (1) ∧ c1 = c1 ∧ c2 = c2 ∧ o = o ∧ to = to ∧ to = to ∧ 1 = 1 ∧ 0 = 0 ∧ 0 = 0 ∧ c1 = c1 ∧ c2 = c2 ∧ o = o ∧ to = to ∧ o = o ∧ to = to ∧ c2 = c2
  ∧ c1 = c1 ∧ false = false ∧ True)) ∧ ∀ (x : Nat), leadsTo c1 nx o to x → x = D.len c3 → 1 = 1 ∧ 0 = 0 ∧ 1 = 1 ∧ 0 = 0 ∧ false = c4 ∧ True)) :
    evF (mkr2 KR10 Go.Eng.noP (fun _ => false)) (leadsA (cs, ns, os, fs, ls, ks) nx o to) 46 [.ip N (cs, ns, os, fs, ls, ks), .ip Pl (p1, p2, nx, dy), .dat I o, .dat I to] [] ⟨passP (cs, ns, os, fs, ls, ks) nx o to, .dat .bool (leadsF (cs, ns, os, fs, ls, ks) nx o to), []⟩ := @of_eq _ _ (by kernel_rfl) hvc
def KR11 : Kt := kOr 46 (dataK [.ptr N, .ptr Pl, .val I, .val I] (fun (n, p, o, to, _) => passP n p.2.2.1 o to) fun (n, p, o, to, _) => .dat .bool (leadsF n p.2.2.1 o to)) KR10
def dsafeA (n m : Net) (nx mx : List (List Int)) (o to : Int) : Ann := ⟨fun id s => match id with
  | 2 => some { α := Nat, inv := fun k => safeTo n m nx mx o to k, st := fun _ => flat s, μ := fun k => k }
  | _ => none, fun _ _ => none, fun _ _ => none⟩
theorem vc_dsafe (o to : Int) (m : Net) (q : Plan) (p1 p2 : Int) (nx : List (List Int)) (dy : List (List (List Int))) (cs : LC) (ns os : LB) (fs : List Off) (ls : List Line) (ks : List Cla) (hvc :
 let c1 := (cs, ns, os, fs, ls, ks);
 let c2 := q.snd.snd.fst;
 let c3 := (p1, p2, nx, dy);
 let c4 := passL c1 nx o to;
 let c5 := safeW c1 m nx c2 o to;
 let c6 := chainOf (Value.iface (40) (Value.int IntKind.i64 (170 : Int))); True ∧ (passP c1 nx o to ∧ passP m c2 o to ∧ sameLen c1 m → True ∧ passP c1 nx o to ∧
  (∃ x, safeTo c1 m nx c2 o to x ∧ x = 0 ∧ c1 = c1 ∧ c3 = c3 ∧ m = m ∧ q = q ∧ o = o ∧ to = to ∧ m = m ∧ q = q ∧ to = to ∧ c1 = c1 ∧ c3 = c3 ∧ o = o ∧ to = to ∧
  o = o ∧ to = to ∧ c3 = c3 ∧ c1 = c1 ∧ True) ∧ (∀ (x : Nat) (y : Int),
 let c7 := D.not (leadsF m c2 y to); safeTo c1 m nx c2 o to x → isAt c4 x y → passP m c2 y to ∧ (c7 = true → (true = true → True ∧ (false = false → c5 = false ∧
  true = true ∧ c6 = c6)) ∧ True) ∧ (c7 = false → ∃ z, safeTo c1 m nx c2 o to z ∧ z = D.nadd x (1) ∧ c1 = c1 ∧ c3 = c3 ∧ m = m ∧ q = q ∧ o = o ∧ to = to ∧ m = m
  ∧ q = q ∧ to = to ∧ c1 = c1 ∧ c3 = c3 ∧ o = o ∧ to = to ∧ o = o ∧ to = to ∧ c3 = c3 ∧ c1 = c1 ∧ True)) ∧ ∀ (x : Nat), safeTo c1 m nx c2 o to x → x = D.len c4 →
  c5 = true ∧ True)) :
    evC (mkr2 KR11 Go.Eng.noP (fun _ => false)) (dsafeA (cs, ns, os, fs, ls, ks) m nx q.2.2.1 o to) 47 [.ip N (cs, ns, os, fs, ls, ks), .ip Pl (p1, p2, nx, dy), .ip N m, .ip Pl q, .dat I o, .dat I to] (.tup []) ⟨passP (cs, ns, os, fs, ls, ks) nx o to ∧ passP m q.2.2.1 o to ∧ sameLen (cs, ns, os, fs, ls, ks) m, safeW (cs, ns, os, fs, ls, ks) m nx q.2.2.1 o to, errV 40 170⟩ := @of_eq _ _ (by kernel_rfl) hvc
def growK (args : List AV) (m : Mem) : Option CRes := match args, m with
  | [.val (.slice none 0 0), .dat (.int .i64) k], [] => some ⟨growP k, .buf 0 0, [(0, .buf 47 Stp (D.nil Stop) [])]⟩
  | _, _ => none
def KR12 : Kt := kOr 63 growK KR11
def concA (a b : List Stop) : Ann := ⟨fun id s => match id with
  | 3 => some { α := Int, inv := fun k => to2 k, st := fun k => put (flat s) [(11, .dat I k), (3, .dat I (ccS a b k))], μ := fun k => D.nat (D.sub 2 k) }
  | 11 => match s.sig.T 24 with
    | .buf nm _ => some { α := Int, inv := fun k => to2 k, st := fun k => putM (put (flat s) [(24, .top), (27, .dat I k), (6, .buf nm (D.len (ccL a b k)))]) nm (.buf 47 Stp (ccL a b k) []), μ := fun k => D.nat (D.sub 2 k) }
    | _ => none
  | _ => none, fun _ _ => none, fun _ _ => none⟩
theorem vc_concat (a b : List Stop) (hvc :
 let c1 := [a, b];
 let c2 := D.ilen c1;
 let c3 := D.app a b; true = true ∧ (ccP a b → (∃ x, to2 x ∧ c1 = c1 ∧ Value.slice none (0) (0) = Value.slice none (0) (0) ∧ (0 : Int) = ccS a b x ∧ c1 = c1 ∧ c2
  = c2 ∧ (0 : Int) = x ∧ True) ∧ ∀ (x : Int),
 let c4 := D.add (ccS a b x) (D.ilen (D.get c1 (D.nat x) (D.nil (Int × Int × Int × Int))));
 let c5 := D.lt c4 (0 : Int);
 let c6 := D.add x (1 : Int); to2 x → (D.lt x c2 = true → D.ile (0 : Int) x ∧ D.ilt x c2 ∧ inR IntKind.i64 c4 ∧ (c5 = true → False) ∧ (c5 = false → inR
  IntKind.i64 c6 ∧ ∃ y, to2 y ∧ (c1 = c1 ∧ Value.slice none (0) (0) = Value.slice none (0) (0) ∧ c4 = ccS a b y ∧ c1 = c1 ∧ c2 = c2 ∧ c6 = y ∧ True) ∧ D.nlt
  (D.nat (D.sub (2 : Int) y)) (D.nat (D.sub (2 : Int) x)))) ∧ (D.lt x c2 = false → growP (ccS a b x) ∧ (∃ x_3, to2 x_3 ∧ c1 = c1 ∧ Value.slice none (0) (0) =
  Value.slice none (0) (0) ∧ ccS a b x = ccS a b x ∧ 0 = D.len (ccL a b x_3) ∧ c1 = c1 ∧ c2 = c2 ∧ x = x ∧ D.lt x c2 = D.lt x c2 ∧ ccS a b x = ccS a b x ∧ c1 =
  c1 ∧ c2 = c2 ∧ (0 : Int) = x_3 ∧ D.nil (Int × Int × Int × Int) = ccL a b x_3 ∧ True) ∧ ∀ (x_3 : Int),
 let c7 := D.len (ccL a b x_3);
 let c8 := D.get c1 (D.nat x_3) (D.nil (Int × Int × Int × Int));
 let c9 := D.nadd c7 (D.len c8);
 let c10 := D.add x_3 (1 : Int); to2 x_3 → (D.lt x_3 c2 = true → D.ile (0 : Int) x_3 ∧ D.ilt x_3 c2 ∧ c7 = c7 ∧ D.nle (D.nmul c9 (32)) (140737488355328) ∧ D.nle
  c9 (9223372036854775807) ∧ inR IntKind.i64 c10 ∧ ∃ y, to2 y ∧ (c1 = c1 ∧ Value.slice none (0) (0) = Value.slice none (0) (0) ∧ ccS a b x = ccS a b x ∧ c9 =
  D.len (ccL a b y) ∧ c1 = c1 ∧ c2 = c2 ∧ x = x ∧ D.lt x c2 = D.lt x c2 ∧ ccS a b x = ccS a b x ∧ c1 = c1 ∧ c2 = c2 ∧ c10 = y ∧ D.app (ccL a b x_3) c8 = ccL a b
  y ∧ True) ∧ D.nlt (D.nat (D.sub (2 : Int) y)) (D.nat (D.sub (2 : Int) x_3))) ∧ (D.lt x_3 c2 = false → c7 = D.len c3 ∧ ccL a b x_3 = c3 ∧ True)))) :
    evF (mkc KR12) (concA a b) 43 [.dat (.sl (.sl Stp)) [a, b]] [] ⟨ccP a b, .buf 0 (D.len (D.app a b)), [(0, .buf 47 Stp (D.app a b) [])]⟩ := @of_eq _ _ (by kernel_rfl) hvc
theorem KIR2s : KISound Tryz.prog G0 KIR2 := by
  intro f caps c h
  unfold KIR2 at h
  split at h
  · cases h; exact t_iterP _ _ _ _ _ _ _ _ _ _ _ _
  · cases h
theorem KSR10 : KSound Tryz.prog G0 KR10 := kOr_ok (dataK_ok fun ((cs, ns, os, fs, ls, ks), (p1, p2, nx, dy), _) => t_tus p1 p2 nx dy cs ns os fs ls ks) <| kOr_ok (dataK_ok fun ((cs, ns, os, fs, ls, ks), m, _) => t_tal cs ns os fs ls ks m) <| kOr_ok (dataK_ok fun (l, t, _) => t_tplace l t) <|
  kOr_ok (dataK_ok fun ((cs, ns, os, fs, ls, ks), (e1, e2, e3, e4, e5), t, _) => (t_tdpost e1 e2 e3 e4 e5 t cs ns os fs ls ks).1) <| kOr_ok (dataK_ok fun ((cs, ns, os, fs, ls, ks), (p1, p2, nx, dy), o, to, t, _) => (t_tway o to t p1 p2 nx dy cs ns os fs ls ks).1) <| kOr_ok (dataK_ok fun ((cs, ns, os, fs, ls, ks), (p1, p2, nx, dy), o, to, _) => t_passed o to p1 p2 nx dy cs ns os fs ls ks) KSR9
theorem t_leads (o to : Int) (p1 p2 : Int) (nx : List (List Int)) (dy : List (List (List Int))) (cs : LC) (ns os : LB) (fs : List Off) (ls : List Line) (ks : List Cla) : SoundC Tryz.prog G0 46 [.ip N (cs, ns, os, fs, ls, ks), .ip Pl (p1, p2, nx, dy), .dat I o, .dat I to] [] ⟨passP (cs, ns, os, fs, ls, ks) nx o to, .dat .bool (leadsF (cs, ns, os, fs, ls, ks) nx o to), []⟩ := by
  refine sound_of_evK (c := mkr2 KR10 Go.Eng.noP (fun _ => false)) KSR10 KIR2s hm noP_ok (vc_leads o to p1 p2 nx dy cs ns os fs ls ks ⟨rfl, fun hp => ?_⟩)
  simp only [cnd_or, cnd_and, D.and, D.or, D.not, Bool.true_and, Bool.and_true, Bool.false_or, Bool.or_false, eq_self, true_and, and_true, imp_self, implies_true, Bool.not_eq_true', Bool.or_eq_true, Bool.or_eq_false_iff, Bool.not_eq_false', Bool.and_eq_true, Bool.and_eq_false_imp, Bool.not_not, forall_const, exists_eq_right, exists_eq_right', exists_eq_left, exists_eq_left', Int.toNat_natCast, Nat.zero_add, Nat.mul_one, Int.ofNat_eq_natCast, D.nil, D.eq, D.ne, D.lt, D.gt, D.le, D.ge, D.beq, D.ilen, D.slen, D.ile, D.ilt, D.ine, D.nle, D.nlt, D.sub, D.add, D.mul, D.neg, D.nat, D.ofN, D.len, D.nadd, D.nmul, D.get, D.mn, D.mx, D.set, D.app, D.tail, D.part, D.seg, D.rep, D.at2, decide_eq_true_eq, decide_eq_false_iff_not, beq_iff_eq, bne_iff_ne, beq_eq_false_iff_ne, bne_eq_false_iff_eq, D.wrap, D.allNil]
  refine ⟨hp, ⟨Nat.zero_le _, fun i h => by omega⟩, fun k y hk hy => ⟨fun e => ?_, fun e => ?_⟩, fun k hk he => ?_⟩
  · have hy : (passL (cs, ns, os, fs, ls, ks) nx o to)[k]? = some y := hy
    exact (List.any_eq_true.2 ⟨y, List.mem_of_getElem? hy, decide_eq_true e⟩).symm
  · have hy : (passL (cs, ns, os, fs, ls, ks) nx o to)[k]? = some y := hy
    have hl := (List.getElem?_eq_some_iff.1 hy).1
    refine ⟨by omega, fun i hi => ?_⟩
    by_cases h : i < k
    · exact hk.2 i h
    · have : i = k := by omega
      rw [this, List.getD_eq_getElem?_getD, hy]; exact e
  · refine (List.any_eq_false.2 fun y hy => ?_).symm
    obtain ⟨i, hi, rfl⟩ := List.mem_iff_getElem.1 hy
    have := hk.2 i (by omega)
    rw [List.getD_eq_getElem?_getD, List.getElem?_eq_getElem hi] at this
    simpa using this
theorem KSR11 : KSound Tryz.prog G0 KR11 := kOr_ok (dataK_ok fun ((cs, ns, os, fs, ls, ks), (p1, p2, nx, dy), o, to, _) => t_leads o to p1 p2 nx dy cs ns os fs ls ks) KSR10
theorem pass_in (cs : LC) (ns os : LB) (fs : List Off) (ls : List Line) (ks : List Cla) {nx : List (List Int)} {o to : Int} (hp : passP (cs, ns, os, fs, ls, ks) nx o to) : ∀ (k : Nat) (x : Int), 0 ≤ x → x < fs.length → ∀ y ∈ passN (cs, ns, os, fs, ls, ks) nx to k x, 0 ≤ y ∧ y < fs.length
  | 0, x, x0, x1, y, hy => by
    rw [passN, List.mem_singleton] at hy
    subst hy; exact ⟨x0, x1⟩
  | k + 1, x, x0, x1, y, hy => by
    rw [passN] at hy
    split at hy
    · rw [List.mem_singleton] at hy
      subst hy; exact ⟨x0, x1⟩
    · rename_i hst
      rcases List.mem_cons.1 hy with rfl | hy
      · exact ⟨x0, x1⟩
      · obtain ⟨c1, c2, c3⟩ := tab_cell cs ns os fs ls ks hp.2.1 x0 x1 hp.2.2.2.2.1 hp.2.2.2.2.2
        obtain ⟨⟨l0, l1⟩, _⟩ := c3 fun h => hst (.inr h)
        obtain ⟨g1, g2, g3, g4, _⟩ := lin_ok cs ns os fs ls ks (l := nxt nx x to) ⟨sound_noF cs ns os fs ls ks hp.1, l0, l1⟩
        exact pass_in cs ns os fs ls ks hp k _ g3 g4 y hy
theorem t_dsafe (o to : Int) (m : Net) (q : Plan) (p1 p2 : Int) (nx : List (List Int)) (dy : List (List (List Int))) (cs : LC) (ns os : LB) (fs : List Off) (ls : List Line) (ks : List Cla) : SoundC Tryz.prog G0 47 [.ip N (cs, ns, os, fs, ls, ks), .ip Pl (p1, p2, nx, dy), .ip N m, .ip Pl q, .dat I o, .dat I to] [] ⟨(passP (cs, ns, os, fs, ls, ks) nx o to ∧ passP m q.2.2.1 o to ∧ sameLen (cs, ns, os, fs, ls, ks) m) ∧ safeW (cs, ns, os, fs, ls, ks) m nx q.2.2.1 o to = true, .tup [], []⟩ ∧ SoundP Tryz.prog G0 47 [.ip N (cs, ns, os, fs, ls, ks), .ip Pl (p1, p2, nx, dy), .ip N m, .ip Pl q, .dat I o, .dat I to] ⟨passP (cs, ns, os, fs, ls, ks) nx o to ∧ passP m q.2.2.1 o to ∧ sameLen (cs, ns, os, fs, ls, ks) m, safeW (cs, ns, os, fs, ls, ks) m nx q.2.2.1 o to, errV 40 170⟩ := by
  refine sound_of_evC (c := mkr2 KR11 Go.Eng.noP (fun _ => false)) KSR11 KIR2s hm noP_ok (vc_dsafe o to m q p1 p2 nx dy cs ns os fs ls ks ⟨trivial, fun hp => ?_⟩)
  simp only [cnd_or, cnd_and, D.and, D.or, D.not, Bool.true_and, Bool.and_true, Bool.false_or, Bool.or_false, eq_self, true_and, and_true, imp_self, implies_true, Bool.not_eq_true', Bool.or_eq_true, Bool.or_eq_false_iff, Bool.not_eq_false', Bool.and_eq_true, Bool.and_eq_false_imp, Bool.not_not, forall_const, exists_eq_right, exists_eq_right', exists_eq_left, exists_eq_left', Int.toNat_natCast, Nat.zero_add, Nat.mul_one, Int.ofNat_eq_natCast, D.nil, D.eq, D.ne, D.lt, D.gt, D.le, D.ge, D.beq, D.ilen, D.slen, D.ile, D.ilt, D.ine, D.nle, D.nlt, D.sub, D.add, D.mul, D.neg, D.nat, D.ofN, D.len, D.nadd, D.nmul, D.get, D.mn, D.mx, D.set, D.app, D.tail, D.part, D.seg, D.rep, D.at2, decide_eq_true_eq, decide_eq_false_iff_not, beq_iff_eq, bne_iff_ne, beq_eq_false_iff_ne, bne_eq_false_iff_eq, D.wrap, D.allNil]
  obtain ⟨h1, h2, h3⟩ := hp
  have hin := pass_in cs ns os fs ls ks h1 19
  refine ⟨h1, ⟨Nat.zero_le _, fun i h => by omega⟩, fun k y hk hy => ?_, fun k hk he => ?_⟩
  · have hy : (passL (cs, ns, os, fs, ls, ks) nx o to)[k]? = some y := hy
    have hm := List.mem_of_getElem? hy
    obtain ⟨y0, y1⟩ := hin o h1.2.2.1 h1.2.2.2.1 y hm
    have h3 : fs.length = m.2.2.2.1.length := h3
    refine ⟨⟨h2.1, h2.2.1, y0, by rw [← h3]; exact y1, h2.2.2.2.2⟩, fun hl => ?_, fun hl => ⟨by have := (List.getElem?_eq_some_iff.1 hy).1; omega, fun i hi => ?_⟩⟩
    · exact List.all_eq_false.2 ⟨y, hm, by rw [hl]; exact Bool.false_ne_true⟩
    · by_cases h : i < k
      · exact hk.2 i h
      · have : i = k := by omega
        rw [this, List.getD_eq_getElem?_getD, hy]; exact hl
  · refine List.all_eq_true.2 fun y hy => ?_
    obtain ⟨i, hi, rfl⟩ := List.mem_iff_getElem.1 hy
    have := hk.2 i (by omega)
    rw [List.getD_eq_getElem?_getD, List.getElem?_eq_getElem hi] at this
    exact this
theorem growK_ok : ∀ args m c, growK args m = some c → SoundC Tryz.prog G0 63 args m c := by
  intro args m c h
  unfold growK at h
  split at h
  · cases h
    exact fun hp => t_grow _ hp trivial
  · cases h
theorem KSR12 : KSound Tryz.prog G0 KR12 := kOr_ok growK_ok KSR11
theorem t_concat (a b : List Stop) : SoundC Tryz.prog G0 43 [.dat (.sl (.sl Stp)) [a, b]] [] ⟨ccP a b, .buf 0 (D.len (D.app a b)), [(0, .buf 47 Stp (D.app a b) [])]⟩ := by
  refine sound_of_ev (c := mkc KR12) KSR12 KI0s hm (vc_concat a b ⟨rfl, fun hp => ?_⟩)
  simp only [cnd_or, cnd_and, D.and, D.or, D.not, Bool.true_and, Bool.and_true, Bool.false_or, Bool.or_false, eq_self, true_and, and_true, imp_self, implies_true, Bool.not_eq_true', Bool.or_eq_true, Bool.or_eq_false_iff, Bool.not_eq_false', Bool.and_eq_true, Bool.and_eq_false_imp, Bool.not_not, forall_const, exists_eq_right, exists_eq_right', exists_eq_left, exists_eq_left', Int.toNat_natCast, Nat.zero_add, Nat.mul_one, Int.ofNat_eq_natCast, D.nil, D.eq, D.ne, D.lt, D.gt, D.le, D.ge, D.beq, D.ilen, D.slen, D.ile, D.ilt, D.ine, D.nle, D.nlt, D.sub, D.add, D.mul, D.neg, D.nat, D.ofN, D.len, D.nadd, D.nmul, D.get, D.mn, D.mx, D.set, D.app, D.tail, D.part, D.seg, D.rep, D.at2, decide_eq_true_eq, decide_eq_false_iff_not, beq_iff_eq, bne_iff_ne, beq_eq_false_iff_ne, bne_eq_false_iff_eq, D.wrap, D.allNil]
  obtain ⟨ha, hb⟩ := hp
  have cases2 : ∀ x : Int, to2 x → x < (([a, b] : List (List Stop)).length : Int) → x = 0 ∨ x = 1 := fun x hx hl => by
    have := hx.1
    simp at hl; omega
  have e0 : ccS a b 0 = 0 := rfl
  have e1 : ccS a b 1 = a.length := rfl
  have e2 : ccS a b 2 = a.length + b.length := rfl
  have l0 : ccL a b 0 = [] := rfl
  have l1 : ccL a b 1 = a := rfl
  have l2 : ccL a b 2 = a ++ b := rfl
  refine ⟨⟨0, ⟨by omega, by omega⟩, rfl, rfl⟩, fun x hx => ⟨fun hlt => ?_, fun hge => ?_⟩⟩
  · rcases cases2 x hx hlt with rfl | rfl
    · have g : ([a, b].getD (Int.toNat 0) []).length = a.length := rfl
      rw [g, e0]
      exact ⟨by omega, hlt, in_big (by omega), fun h => by omega, fun _ => ⟨in_big (by omega), 1, ⟨by omega, by omega⟩, ⟨by rw [e1]; omega, rfl⟩, by omega⟩⟩
    · have g : ([a, b].getD (Int.toNat 1) []).length = b.length := rfl
      rw [g, e1]
      exact ⟨by omega, hlt, in_big (by omega), fun h => by omega, fun _ => ⟨in_big (by omega), 2, ⟨by omega, by omega⟩, ⟨by rw [e2], rfl⟩, by omega⟩⟩
  · have hx2 : x = 2 := by
      have := hx.1; have := hx.2
      simp at hge; omega
    subst hx2
    refine ⟨by rw [e2]; exact ⟨by omega, by omega⟩, ⟨0, ⟨by omega, by omega⟩, by rw [l0]; rfl, rfl, l0.symm⟩, fun y hy => ⟨fun hlt => ?_, fun hge2 => ?_⟩⟩
    · rcases cases2 y hy hlt with rfl | rfl
      · have g : [a, b].getD (Int.toNat 0) [] = a := rfl
        rw [g, l0]
        exact ⟨by omega, hlt, by simp; omega, by simp; omega, in_big (by omega), 1, ⟨by omega, by omega⟩, ⟨by rw [l1]; simp, rfl, by rw [l1]; rfl⟩, by omega⟩
      · have g : [a, b].getD (Int.toNat 1) [] = b := rfl
        rw [g, l1]
        exact ⟨by omega, hlt, by omega, by omega, in_big (by omega), 2, ⟨by omega, by omega⟩, ⟨by rw [l2, List.length_append], rfl, by rw [l2]⟩, by omega⟩
    · have hy2 : y = 2 := by
        have := hy.1; have := hy.2
        simp at hge2; omega
      subst hy2
      exact ⟨rfl, rfl⟩
end Go.Eng.Sv
