/- PeMm4m -/
import Derived.Test.YtgphkkpblecfgaaY22
import Derived.Test.YtgphkkpblecfgaaMm3m
set_option linter.unusedSimpArgs false
set_option linter.unusedVariables false
set_option maxRecDepth 100000
namespace Go.Eng.Mp
open Go.Proofs
open Go.Eng.Sv (I R M G0 KI0)
open Go.Eng.Sv (KI0s hm cnd_or cnd_and in_small)
noncomputable def rappTo (m : List (List Int)) (v : List Int) (k : Int) : List Int := ((List.range m.length).map fun i : Nat => foldI plusF (aterm m i v) (-1099511627776) v.length).take k.toNat
noncomputable def appIn (m : List (List Int)) (v : List Int) (k : Int) : Prop := 0 ≤ k ∧ k ≤ m.length ∧ validF m = true ∧ v.length = m.length ∧ (0 < k → wrongF v = false)
noncomputable def appIn2 (m : List (List Int)) (v : List Int) (i k : Int) : Prop := 0 ≤ k ∧ k ≤ m.length ∧ ∀ j : Int, 0 ≤ j → j < k → elemF (at1 v j) = true
noncomputable def starIn (m : List (List Int)) (k : Int) : Prop := 0 ≤ k ∧ k ≤ m.length + 1 ∧ validF m = true ∧ ∀ j : Nat, (j : Int) < k → bestN m (j + 1) ≠ bestN m j
noncomputable def K9 : Kt := fun f args m => match f, args, m with
  | 16, [.dat (.sl (.sl (.int .i64))) a, .dat (.sl (.sl (.int .i64))) b], [] => some ⟨lensOk a, .dat .bool (sameF a b), []⟩
  | 18, [.dat (.sl (.sl (.int .i64))) m], [] => some ⟨True, .dat .bool (validF m), []⟩
  | _, _, _ => K8 f args m
noncomputable def c9 : Cfg := Sv.mkc K9
noncomputable def oneA (n : Int) : Ann := ⟨fun id s => match id with
  | 3 => some { α := Int, inv := fun k => upto k n, st := fun k => putM (put s [(4, .dat I k), (3, .buf 7 (D.len (tabTo one1 n k)))]) 7 (.buf 23 R (tabTo one1 n k) []), μ := fun k => D.nat (D.sub n k) }
  | 7 => match s.sig.T 4, s.sig.T 12 with
    | .dat (.int .i64) i, .buf nm _ => some { α := Int, inv := fun k => upto k n, st := fun k => putM (put s [(6, .dat I k), (5, .buf nm (D.len (rTo one1 n i k)))]) nm (.buf 3 I (rTo one1 n i k) []), μ := fun k => D.nat (D.sub n k) }
    | _, _ => none
  | _ => none, fun id s => match id with
  | 12 => match s.sig.T 12 with
    | .buf nm _ => some (put (frz [nm] s) [(12, .top)])
    | _ => none
  | _ => none, fun _ _ => none⟩
noncomputable def oneMA (n : Int) : Ann := ⟨fun id s => match id with
  | 3 => some { α := Int, inv := fun k => upto k n, st := fun k => putM (put s [(4, .dat I k), (3, .buf 0 (D.len (tabTo one1 n k)))]) 0 (.mat 23 3 I (tabTo one1 n k) []), μ := fun k => D.nat (D.sub n k) }
  | 7 => match s.sig.T 4, s.sig.T 12 with
    | .dat (.int .i64) i, .buf nm _ => some { α := Int, inv := fun k => upto k n, st := fun k => putM (put s [(6, .dat I k), (5, .buf nm (D.len (rTo one1 n i k)))]) nm (.buf 3 I (rTo one1 n i k) []), μ := fun k => D.nat (D.sub n k) }
    | _, _ => none
  | _ => none, fun id s => match id with
  | 2 => some { putM (put s [(3, .buf 0 0)]) 0 (.buf 23 R (D.nil (List Int)) []) with nx := 1 }
  | _ => none, fun _ _ => none⟩
noncomputable def rsumA (a : List (List Int)) (g : Int → Int → Int) : Ann := ⟨fun id s => match id with
  | 5 => some { α := Int, inv := fun k => upto k (D.ilen a), st := fun k => putM (put s [(6, .dat I k), (5, .buf 0 (D.len (tabTo g (D.ilen a) k)))]) 0 (.buf 23 R (tabTo g (D.ilen a) k) []), μ := fun k => D.nat (D.sub (D.ilen a) k) }
  | 9 => match s.sig.T 6 with
    | .dat (.int .i64) i => some { α := Int, inv := fun k => upto k (D.ilen a), st := fun k => putM (put s [(8, .dat I k), (7, .buf 1 (D.len (rTo g (D.ilen a) i k)))]) 1 (.buf 3 I (rTo g (D.ilen a) i k) []), μ := fun k => D.nat (D.sub (D.ilen a) k) }
    | _ => none
  | _ => none, fun id s => match id with
  | 12 => some (frz [1] s)
  | _ => none, fun _ _ => none⟩
noncomputable def rprodA (a b : List (List Int)) : Ann := ⟨fun id s => match id with
  | 5 => some { α := Int, inv := fun k => upto k (D.ilen a), st := fun k => putM (put s [(6, .dat I k), (5, .buf 0 (D.len (tabTo (dotF a b) (D.ilen a) k)))]) 0 (.buf 23 R (tabTo (dotF a b) (D.ilen a) k) []), μ := fun k => D.nat (D.sub (D.ilen a) k) }
  | 9 => match s.sig.T 6 with
    | .dat (.int .i64) i => some { α := Int, inv := fun k => upto k (D.ilen a), st := fun k => putM (put s [(8, .dat I k), (7, .buf 1 (D.len (rTo (dotF a b) (D.ilen a) i k)))]) 1 (.buf 3 I (rTo (dotF a b) (D.ilen a) i k) []), μ := fun k => D.nat (D.sub (D.ilen a) k) }
    | _ => none
  | 13 => match s.sig.T 6, s.sig.T 8 with
    | .dat (.int .i64) i, .dat (.int .i64) j => some { α := Int, inv := fun k => upto k (D.ilen a), st := fun k => put s [(10, .dat I k), (9, .dat I (foldI plusF (term a i b j) (-1099511627776) k))], μ := fun k => D.nat (D.sub (D.ilen a) k) }
    | _, _ => none
  | _ => none, fun id s => match id with
  | 17 => some (frz [1] s)
  | _ => none, fun _ _ => none⟩
noncomputable def rappA (m : List (List Int)) (v : List Int) : Ann := ⟨fun id s => match id with
  | 5 => some { α := Int, inv := fun k => appIn m v k, st := fun k => putM (put s [(6, .dat I k), (5, .buf 0 (D.len (rappTo m v k)))]) 0 (.buf 3 I (rappTo m v k) []), μ := fun k => D.nat (D.sub (D.ilen m) k) }
  | 9 => match s.sig.T 6 with
    | .dat (.int .i64) i => some { α := Int, inv := fun k => appIn2 m v i k, st := fun k => put s [(8, .dat I k), (7, .dat I (foldI plusF (aterm m i v) (-1099511627776) k))], μ := fun k => D.nat (D.sub (D.ilen m) k) }
    | _ => none
  | _ => none, fun _ _ => none, fun _ _ => none⟩
set_option maxRecDepth 100000 in
theorem vc_one (n : Int) (hvc :
 let c1 := [(0 : Int)];
 let c2 := D.len c1;
 let c3 := [(-1099511627776 : Int)];
 let c4 := D.len c3; true = true ∧ (small n → (∃ x, upto x n ∧ n = n ∧ Value.slice none (0) (0) = Value.slice none (0) (0) ∧ D.len (tabTo one1 n x) = 0 ∧ tabTo
  one1 n x = D.nil (List Int) ∧ (0 : Int) = x ∧ tabTo one1 n x = D.nil (List Int) ∧ True) ∧ ∀ (x : Int),
 let c5 := D.len (tabTo one1 n x);
 let c6 := D.add x (1 : Int); upto x n → (D.lt x n = true → (∃ x_3,
 let c7 := rTo one1 n x x_3; upto x_3 n ∧ n = n ∧ Value.slice none (0) (0) = Value.slice none (0) (0) ∧ c5 = c5 ∧ x = x ∧ 0 = D.len c7 ∧ (0 : Int) = x_3 ∧ x = x
  ∧ n = n ∧ D.lt x n = D.lt x n ∧ 0 = 0 ∧ tabTo one1 n x = tabTo one1 n x ∧ D.nil Int = c7 ∧ True) ∧ ∀ (x_3 : Int),
 let c8 := rTo one1 n x x_3;
 let c9 := D.len c8;
 let c10 := D.nadd c9 c2;
 let c11 := D.add x_3 (1 : Int);
 let c12 := D.nadd c9 c4;
 let c13 := [c8];
 let c14 := D.nadd c5 (D.len c13); upto x_3 n → (D.lt x_3 n = true → (D.eq x x_3 = true → c9 = c9 ∧ D.nle (D.nmul c10 (8)) (140737488355328) ∧ D.nle c10
  (9223372036854775807) ∧ inR IntKind.i64 c11 ∧ ∃ y,
 let c15 := rTo one1 n x y; upto y n ∧ (n = n ∧ Value.slice none (0) (0) = Value.slice none (0) (0) ∧ c5 = c5 ∧ x = x ∧ c10 = D.len c15 ∧ c11 = y ∧ x = x ∧ n = n
  ∧ D.lt x n = D.lt x n ∧ 0 = 0 ∧ tabTo one1 n x = tabTo one1 n x ∧ D.app c8 c1 = c15 ∧ True) ∧ D.nlt (D.nat (D.sub n y)) (D.nat (D.sub n x_3))) ∧ (D.eq x x_3 =
  false → c9 = c9 ∧ D.nle (D.nmul c12 (8)) (140737488355328) ∧ D.nle c12 (9223372036854775807) ∧ inR IntKind.i64 c11 ∧ ∃ y,
 let c16 := rTo one1 n x y; upto y n ∧ (n = n ∧ Value.slice none (0) (0) = Value.slice none (0) (0) ∧ c5 = c5 ∧ x = x ∧ c12 = D.len c16 ∧ c11 = y ∧ x = x ∧ n = n
  ∧ D.lt x n = D.lt x n ∧ 0 = 0 ∧ tabTo one1 n x = tabTo one1 n x ∧ D.app c8 c3 = c16 ∧ True) ∧ D.nlt (D.nat (D.sub n y)) (D.nat (D.sub n x_3)))) ∧ (D.lt x_3 n =
  false → n = n ∧ Value.slice none (0) (0) = Value.slice none (0) (0) ∧ c5 = c5 ∧ x = x ∧ c9 = c9 ∧ c8 = c8 ∧ x_3 = x_3 ∧ x = x ∧ n = n ∧ D.lt x n = D.lt x n ∧
  x_3 = x_3 ∧ n = n ∧ D.lt x_3 n = D.lt x_3 n ∧ tabTo one1 n x = tabTo one1 n x ∧ c5 = c5 ∧ D.nle (D.nmul c14 (24)) (140737488355328) ∧ D.nle c14
  (9223372036854775807) ∧ inR IntKind.i64 c6 ∧ ∃ y, upto y n ∧ (n = n ∧ Value.slice none (0) (0) = Value.slice none (0) (0) ∧ c14 = D.len (tabTo one1 n y) ∧ c6 =
  y ∧ D.app (tabTo one1 n x) c13 = tabTo one1 n y ∧ True) ∧ D.nlt (D.nat (D.sub n y)) (D.nat (D.sub n x)))) ∧ (D.lt x n = false → c5 = c5 ∧ tabTo one1 n x = oneF
  n ∧ True))) :
    evF { c9 with mb := fun t => t == 12 } (oneA n) 13 [.dat I n] [] ⟨small n, .dat M (oneF n), []⟩ := of_eq (by kernel_rfl) hvc

set_option maxRecDepth 100000 in
theorem vc_oneM (n : Int) (hvc :
 let c1 := [(0 : Int)];
 let c2 := D.len c1;
 let c3 := [(-1099511627776 : Int)];
 let c4 := D.len c3; true = true ∧ (small n → n = n ∧ undef = undef ∧ Value.slice none (0) (0) = Value.slice none (0) (0) ∧ 0 = 0 ∧ D.nil (List Int) = D.nil
  (List Int) ∧ undef = undef ∧ undef = undef ∧ undef = undef ∧ undef = undef ∧ undef = undef ∧ undef = undef ∧ undef = undef ∧ undef = undef ∧ undef = undef ∧
  undef = undef ∧ undef = undef ∧ undef = undef ∧ undef = undef ∧ undef = undef ∧ undef = undef ∧ undef = undef ∧ undef = undef ∧ undef = undef ∧ undef = undef ∧
  undef = undef ∧ undef = undef ∧ undef = undef ∧ undef = undef ∧ undef = undef ∧ undef = undef ∧ undef = undef ∧ undef = undef ∧ undef = undef ∧ D.nil (List
  Int) = D.nil (List Int) ∧ (∃ x, upto x n ∧ n = n ∧ Value.slice none (0) (0) = Value.slice none (0) (0) ∧ 0 = D.len (tabTo one1 n x) ∧ (0 : Int) = x ∧ D.nil
  (List Int) = tabTo one1 n x ∧ D.allNil (tabTo one1 n x) ∧ True) ∧ ∀ (x : Int),
 let c5 := D.len (tabTo one1 n x);
 let c6 := D.nadd c5 (1);
 let c7 := D.add x (1 : Int); upto x n → (D.lt x n = true → (∃ x_3,
 let c8 := rTo one1 n x x_3; upto x_3 n ∧ n = n ∧ Value.slice none (0) (0) = Value.slice none (0) (0) ∧ c5 = c5 ∧ x = x ∧ 0 = D.len c8 ∧ (0 : Int) = x_3 ∧ x = x
  ∧ n = n ∧ D.lt x n = D.lt x n ∧ 0 = 0 ∧ tabTo one1 n x = tabTo one1 n x ∧ D.nil Int = c8 ∧ True) ∧ ∀ (x_3 : Int),
 let c9 := rTo one1 n x x_3;
 let c10 := D.len c9;
 let c11 := D.nadd c10 c2;
 let c12 := D.add x_3 (1 : Int);
 let c13 := D.nadd c10 c4; upto x_3 n → (D.lt x_3 n = true → (D.eq x x_3 = true → c10 = c10 ∧ D.nle (D.nmul c11 (8)) (140737488355328) ∧ D.nle c11
  (9223372036854775807) ∧ inR IntKind.i64 c12 ∧ ∃ y,
 let c14 := rTo one1 n x y; upto y n ∧ (n = n ∧ Value.slice none (0) (0) = Value.slice none (0) (0) ∧ c5 = c5 ∧ x = x ∧ c11 = D.len c14 ∧ c12 = y ∧ x = x ∧ n = n
  ∧ D.lt x n = D.lt x n ∧ 0 = 0 ∧ tabTo one1 n x = tabTo one1 n x ∧ D.app c9 c1 = c14 ∧ True) ∧ D.nlt (D.nat (D.sub n y)) (D.nat (D.sub n x_3))) ∧ (D.eq x x_3 =
  false → c10 = c10 ∧ D.nle (D.nmul c13 (8)) (140737488355328) ∧ D.nle c13 (9223372036854775807) ∧ inR IntKind.i64 c12 ∧ ∃ y,
 let c15 := rTo one1 n x y; upto y n ∧ (n = n ∧ Value.slice none (0) (0) = Value.slice none (0) (0) ∧ c5 = c5 ∧ x = x ∧ c13 = D.len c15 ∧ c12 = y ∧ x = x ∧ n = n
  ∧ D.lt x n = D.lt x n ∧ 0 = 0 ∧ tabTo one1 n x = tabTo one1 n x ∧ D.app c9 c3 = c15 ∧ True) ∧ D.nlt (D.nat (D.sub n y)) (D.nat (D.sub n x_3)))) ∧ (D.lt x_3 n =
  false → c10 = c10 ∧ c5 = c5 ∧ D.nle (D.nmul c6 (24)) (140737488355328) ∧ D.nle c6 (9223372036854775807) ∧ inR IntKind.i64 c7 ∧ ∃ y, upto y n ∧ (n = n ∧
  Value.slice none (0) (0) = Value.slice none (0) (0) ∧ c6 = D.len (tabTo one1 n y) ∧ c7 = y ∧ D.len c9 = c10 ∧ D.set (D.app (tabTo one1 n x) [D.nil Int]) c5 c9
  = tabTo one1 n y ∧ True) ∧ D.nlt (D.nat (D.sub n y)) (D.nat (D.sub n x)))) ∧ (D.lt x n = false → c5 = D.len (oneF n) ∧ tabTo one1 n x = oneF n ∧ True))) :
    evF { c9 with mb := fun t => t == 12 || t == 29 } (oneMA n) 13 [.dat I n] [] ⟨small n, .buf 0 (D.len (oneF n)), [(0, .mat 23 3 I (oneF n) [])]⟩ := of_eq (by kernel_rfl) hvc

set_option maxRecDepth 100000 in
theorem vc_rsum (a b : List (List Int)) (hvc :
 let c1 := D.cnd (D.not (validF a)) true (D.not (validF b));
 let c2 := D.not c1;
 let c3 := D.cnd c1 true (D.ne (D.ilen a) (D.ilen b)); true = true ∧ (True → True ∧ (D.not (D.not (validF a)) = true → D.not (D.not (validF a)) = true → D.not
  (D.not (validF a)) = true) ∧ (D.not (D.not (validF a)) = true → True) ∧ (D.not (D.not (validF a)) = true → D.not (D.not (validF a)) = true → D.not (D.not
  (validF a)) = true) ∧ (D.and true (D.not (D.not (validF a))) = true → D.not (D.not (validF a)) = true) ∧ (c2 = true → c2 = true → c2 = true) ∧ (c2 = true → c2
  = true → c2 = true) ∧ (c2 = true → c2 = true → c2 = true) ∧ (c2 = true → c2 = true → c2 = true) ∧ (D.and true c2 = true → c2 = true) ∧ (c3 = true → sumF a b =
  D.nil (List Int) ∧ True) ∧ (c3 = false → (∃ x,
 let c4 := tabTo (plus2 a b) (D.ilen a) x; upto x (D.ilen a) ∧ a = a ∧ b = b ∧ Value.slice none (0) (0) = Value.slice none (0) (0) ∧ D.len c4 = 0 ∧ c4 = D.nil
  (List Int) ∧ (0 : Int) = x ∧ a = a ∧ validF a = validF a ∧ D.not (validF a) = D.not (validF a) ∧ D.not (validF a) = D.not (validF a) ∧ c1 = c1 ∧ c1 = c1 ∧ c3 =
  c3 ∧ c4 = D.nil (List Int) ∧ True) ∧ ∀ (x : Int),
 let c5 := D.lt x (D.ilen a);
 let c6 := tabTo (plus2 a b) (D.ilen a) x;
 let c7 := D.len c6;
 let c8 := D.get a (D.nat x) (D.nil Int);
 let c9 := D.get b (D.nat x) (D.nil Int);
 let c10 := D.add x (1 : Int); upto x (D.ilen a) → (c5 = true → (∃ x_3,
 let c11 := rTo (plus2 a b) (D.ilen a) x x_3; upto x_3 (D.ilen a) ∧ a = a ∧ b = b ∧ Value.slice none (0) (0) = Value.slice none (0) (0) ∧ c7 = c7 ∧ x = x ∧ D.len
  c11 = 0 ∧ c11 = D.nil Int ∧ (0 : Int) = x_3 ∧ a = a ∧ validF a = validF a ∧ D.not (validF a) = D.not (validF a) ∧ D.not (validF a) = D.not (validF a) ∧ c1 = c1
  ∧ c1 = c1 ∧ c3 = c3 ∧ x = x ∧ a = a ∧ D.ilen a = D.ilen a ∧ c5 = c5 ∧ c6 = c6 ∧ c11 = D.nil Int ∧ True) ∧ ∀ (x_3 : Int),
 let c12 := D.lt x_3 (D.ilen a);
 let c13 := rTo (plus2 a b) (D.ilen a) x x_3;
 let c14 := D.len c13;
 let c15 := [plusF (D.get c8 (D.nat x_3) (0 : Int)) (D.get c9 (D.nat x_3) (0 : Int))];
 let c16 := D.nadd c14 (D.len c15);
 let c17 := D.add x_3 (1 : Int);
 let c18 := [c13];
 let c19 := D.nadd c7 (D.len c18); upto x_3 (D.ilen a) → (c12 = true → D.ile (0 : Int) x ∧ D.ilt x (D.ilen a) ∧ D.ile (0 : Int) x_3 ∧ D.ilt x_3 (D.ilen c8) ∧
  D.ile (0 : Int) x ∧ D.ilt x (D.ilen b) ∧ D.ile (0 : Int) x_3 ∧ D.ilt x_3 (D.ilen c9) ∧ True ∧ c14 = c14 ∧ D.nle (D.nmul c16 (8)) (140737488355328) ∧ D.nle c16
  (9223372036854775807) ∧ inR IntKind.i64 c17 ∧ ∃ y,
 let c20 := rTo (plus2 a b) (D.ilen a) x y; upto y (D.ilen a) ∧ (a = a ∧ b = b ∧ Value.slice none (0) (0) = Value.slice none (0) (0) ∧ c7 = c7 ∧ x = x ∧ c16 =
  D.len c20 ∧ c17 = y ∧ a = a ∧ validF a = validF a ∧ D.not (validF a) = D.not (validF a) ∧ D.not (validF a) = D.not (validF a) ∧ c1 = c1 ∧ c1 = c1 ∧ c3 = c3 ∧ x
  = x ∧ a = a ∧ D.ilen a = D.ilen a ∧ c5 = c5 ∧ c6 = c6 ∧ D.app c13 c15 = c20 ∧ True) ∧ D.nlt (D.nat (D.sub (D.ilen a) y)) (D.nat (D.sub (D.ilen a) x_3))) ∧ (c12
  = false → a = a ∧ b = b ∧ Value.slice none (0) (0) = Value.slice none (0) (0) ∧ c7 = c7 ∧ x = x ∧ c14 = c14 ∧ c13 = c13 ∧ x_3 = x_3 ∧ a = a ∧ validF a = validF
  a ∧ D.not (validF a) = D.not (validF a) ∧ D.not (validF a) = D.not (validF a) ∧ c1 = c1 ∧ c1 = c1 ∧ c3 = c3 ∧ x = x ∧ a = a ∧ D.ilen a = D.ilen a ∧ c5 = c5 ∧
  x_3 = x_3 ∧ a = a ∧ D.ilen a = D.ilen a ∧ c12 = c12 ∧ c6 = c6 ∧ c7 = c7 ∧ D.nle (D.nmul c19 (24)) (140737488355328) ∧ D.nle c19 (9223372036854775807) ∧ inR
  IntKind.i64 c10 ∧ ∃ y,
 let c21 := tabTo (plus2 a b) (D.ilen a) y; upto y (D.ilen a) ∧ (a = a ∧ b = b ∧ Value.slice none (0) (0) = Value.slice none (0) (0) ∧ c19 = D.len c21 ∧ c10 = y
  ∧ a = a ∧ validF a = validF a ∧ D.not (validF a) = D.not (validF a) ∧ D.not (validF a) = D.not (validF a) ∧ c1 = c1 ∧ c1 = c1 ∧ c3 = c3 ∧ D.app c6 c18 = c21 ∧
  True) ∧ D.nlt (D.nat (D.sub (D.ilen a) y)) (D.nat (D.sub (D.ilen a) x)))) ∧ (c5 = false → c7 = c7 ∧ c6 = sumF a b ∧ True)))) :
    evF c9 (rsumA a (plus2 a b)) 20 [.dat M a, .dat M b] [] ⟨True, .dat M (sumF a b), []⟩ := of_eq (by kernel_rfl) hvc

set_option maxRecDepth 100000 in
theorem vc_rprod (a b : List (List Int)) (hvc :
 let c1 := D.cnd (D.not (validF a)) true (D.not (validF b));
 let c2 := D.not c1;
 let c3 := D.cnd c1 true (D.ne (D.ilen a) (D.ilen b)); true = true ∧ (True → True ∧ (D.not (D.not (validF a)) = true → D.not (D.not (validF a)) = true → D.not
  (D.not (validF a)) = true) ∧ (D.not (D.not (validF a)) = true → True) ∧ (D.not (D.not (validF a)) = true → D.not (D.not (validF a)) = true → D.not (D.not
  (validF a)) = true) ∧ (D.and true (D.not (D.not (validF a))) = true → D.not (D.not (validF a)) = true) ∧ (c2 = true → c2 = true → c2 = true) ∧ (c2 = true → c2
  = true → c2 = true) ∧ (c2 = true → c2 = true → c2 = true) ∧ (c2 = true → c2 = true → c2 = true) ∧ (D.and true c2 = true → c2 = true) ∧ (c3 = true → prodF a b =
  D.nil (List Int) ∧ True) ∧ (c3 = false → (∃ x,
 let c4 := tabTo (dotF a b) (D.ilen a) x; upto x (D.ilen a) ∧ a = a ∧ b = b ∧ Value.slice none (0) (0) = Value.slice none (0) (0) ∧ D.len c4 = 0 ∧ c4 = D.nil
  (List Int) ∧ (0 : Int) = x ∧ a = a ∧ validF a = validF a ∧ D.not (validF a) = D.not (validF a) ∧ D.not (validF a) = D.not (validF a) ∧ c1 = c1 ∧ c1 = c1 ∧ c3 =
  c3 ∧ c4 = D.nil (List Int) ∧ True) ∧ ∀ (x : Int),
 let c5 := D.lt x (D.ilen a);
 let c6 := tabTo (dotF a b) (D.ilen a) x;
 let c7 := D.len c6;
 let c8 := D.get a (D.nat x) (D.nil Int);
 let c9 := D.add x (1 : Int); upto x (D.ilen a) → (c5 = true → (∃ x_3,
 let c10 := rTo (dotF a b) (D.ilen a) x x_3; upto x_3 (D.ilen a) ∧ a = a ∧ b = b ∧ Value.slice none (0) (0) = Value.slice none (0) (0) ∧ c7 = c7 ∧ x = x ∧ D.len
  c10 = 0 ∧ c10 = D.nil Int ∧ (0 : Int) = x_3 ∧ a = a ∧ validF a = validF a ∧ D.not (validF a) = D.not (validF a) ∧ D.not (validF a) = D.not (validF a) ∧ c1 = c1
  ∧ c1 = c1 ∧ c3 = c3 ∧ x = x ∧ a = a ∧ D.ilen a = D.ilen a ∧ c5 = c5 ∧ c6 = c6 ∧ c10 = D.nil Int ∧ True) ∧ ∀ (x_3 : Int),
 let c11 := D.lt x_3 (D.ilen a);
 let c12 := rTo (dotF a b) (D.ilen a) x x_3;
 let c13 := D.len c12;
 let c14 := D.add x_3 (1 : Int);
 let c15 := [c12];
 let c16 := D.nadd c7 (D.len c15); upto x_3 (D.ilen a) → (c11 = true → (∃ x_6, upto x_6 (D.ilen a) ∧ a = a ∧ b = b ∧ Value.slice none (0) (0) = Value.slice none
  (0) (0) ∧ c7 = c7 ∧ x = x ∧ c13 = c13 ∧ x_3 = x_3 ∧ (-1099511627776 : Int) = foldI plusF (term a x b x_3) (-1099511627776 : Int) x_6 ∧ (0 : Int) = x_6 ∧ a = a
  ∧ validF a = validF a ∧ D.not (validF a) = D.not (validF a) ∧ D.not (validF a) = D.not (validF a) ∧ c1 = c1 ∧ c1 = c1 ∧ c3 = c3 ∧ x = x ∧ a = a ∧ D.ilen a =
  D.ilen a ∧ c5 = c5 ∧ x_3 = x_3 ∧ a = a ∧ D.ilen a = D.ilen a ∧ c11 = c11 ∧ c6 = c6 ∧ c12 = c12 ∧ True) ∧ ∀ (x_6 : Int),
 let c17 := D.lt x_6 (D.ilen a);
 let c18 := D.get b (D.nat x_6) (D.nil Int);
 let c19 := D.get c8 (D.nat x_6) (0 : Int);
 let c20 := D.get c18 (D.nat x_3) (0 : Int);
 let c21 := D.add x_6 (1 : Int);
 let c22 := foldI plusF (term a x b x_3) (-1099511627776 : Int) x_6;
 let c23 := [c22];
 let c24 := D.nadd c13 (D.len c23); upto x_6 (D.ilen a) → (c17 = true → D.ile (0 : Int) x ∧ D.ilt x (D.ilen a) ∧ D.ile (0 : Int) x_6 ∧ D.ilt x_6 (D.ilen c8) ∧
  D.ile (0 : Int) x_6 ∧ D.ilt x_6 (D.ilen b) ∧ D.ile (0 : Int) x_3 ∧ D.ilt x_3 (D.ilen c18) ∧ timesP c19 c20 ∧ True ∧ inR IntKind.i64 c21 ∧ ∃ y, upto y (D.ilen
  a) ∧ (a = a ∧ b = b ∧ Value.slice none (0) (0) = Value.slice none (0) (0) ∧ c7 = c7 ∧ x = x ∧ c13 = c13 ∧ x_3 = x_3 ∧ plusF c22 (timesF c19 c20) = foldI plusF
  (term a x b x_3) (-1099511627776 : Int) y ∧ c21 = y ∧ a = a ∧ validF a = validF a ∧ D.not (validF a) = D.not (validF a) ∧ D.not (validF a) = D.not (validF a) ∧
  c1 = c1 ∧ c1 = c1 ∧ c3 = c3 ∧ x = x ∧ a = a ∧ D.ilen a = D.ilen a ∧ c5 = c5 ∧ x_3 = x_3 ∧ a = a ∧ D.ilen a = D.ilen a ∧ c11 = c11 ∧ c6 = c6 ∧ c12 = c12 ∧ True)
  ∧ D.nlt (D.nat (D.sub (D.ilen a) y)) (D.nat (D.sub (D.ilen a) x_6))) ∧ (c17 = false → c13 = c13 ∧ D.nle (D.nmul c24 (8)) (140737488355328) ∧ D.nle c24
  (9223372036854775807) ∧ inR IntKind.i64 c14 ∧ ∃ y,
 let c25 := rTo (dotF a b) (D.ilen a) x y; upto y (D.ilen a) ∧ (a = a ∧ b = b ∧ Value.slice none (0) (0) = Value.slice none (0) (0) ∧ c7 = c7 ∧ x = x ∧ c24 =
  D.len c25 ∧ c14 = y ∧ a = a ∧ validF a = validF a ∧ D.not (validF a) = D.not (validF a) ∧ D.not (validF a) = D.not (validF a) ∧ c1 = c1 ∧ c1 = c1 ∧ c3 = c3 ∧ x
  = x ∧ a = a ∧ D.ilen a = D.ilen a ∧ c5 = c5 ∧ c6 = c6 ∧ D.app c12 c23 = c25 ∧ True) ∧ D.nlt (D.nat (D.sub (D.ilen a) y)) (D.nat (D.sub (D.ilen a) x_3)))) ∧
  (c11 = false → a = a ∧ b = b ∧ Value.slice none (0) (0) = Value.slice none (0) (0) ∧ c7 = c7 ∧ x = x ∧ c13 = c13 ∧ c12 = c12 ∧ x_3 = x_3 ∧ a = a ∧ validF a =
  validF a ∧ D.not (validF a) = D.not (validF a) ∧ D.not (validF a) = D.not (validF a) ∧ c1 = c1 ∧ c1 = c1 ∧ c3 = c3 ∧ x = x ∧ a = a ∧ D.ilen a = D.ilen a ∧ c5 =
  c5 ∧ x_3 = x_3 ∧ a = a ∧ D.ilen a = D.ilen a ∧ c11 = c11 ∧ c6 = c6 ∧ c7 = c7 ∧ D.nle (D.nmul c16 (24)) (140737488355328) ∧ D.nle c16 (9223372036854775807) ∧
  inR IntKind.i64 c9 ∧ ∃ y,
 let c26 := tabTo (dotF a b) (D.ilen a) y; upto y (D.ilen a) ∧ (a = a ∧ b = b ∧ Value.slice none (0) (0) = Value.slice none (0) (0) ∧ c16 = D.len c26 ∧ c9 = y ∧
  a = a ∧ validF a = validF a ∧ D.not (validF a) = D.not (validF a) ∧ D.not (validF a) = D.not (validF a) ∧ c1 = c1 ∧ c1 = c1 ∧ c3 = c3 ∧ D.app c6 c15 = c26 ∧
  True) ∧ D.nlt (D.nat (D.sub (D.ilen a) y)) (D.nat (D.sub (D.ilen a) x)))) ∧ (c5 = false → c7 = c7 ∧ c6 = prodF a b ∧ True)))) :
    evF c9 (rprodA a b) 22 [.dat M a, .dat M b] [] ⟨True, .dat M (prodF a b), []⟩ := of_eq (by kernel_rfl) hvc

set_option maxRecDepth 100000 in
theorem vc_rapp (m : List (List Int)) (v : List Int) (hvc :
 let c1 := D.cnd (D.not (validF m)) true (D.ne (D.ilen v) (D.ilen m)); true = true ∧ (True → True ∧ (D.not (D.not (validF m)) = true → D.not (D.not (validF m)) =
  true → D.not (D.not (validF m)) = true) ∧ (D.not (D.not (validF m)) = true → D.not (D.not (validF m)) = true → D.not (D.not (validF m)) = true) ∧ (D.not (D.not
  (validF m)) = true → D.not (D.not (validF m)) = true → D.not (D.not (validF m)) = true) ∧ (D.not (D.not (validF m)) = true → D.not (D.not (validF m)) = true →
  D.not (D.not (validF m)) = true) ∧ (D.and true (D.not (D.not (validF m))) = true → D.not (D.not (validF m)) = true) ∧ (c1 = true → applyF m v = D.nil Int ∧
  True) ∧ (c1 = false → (∃ x, appIn m v x ∧ m = m ∧ v = v ∧ D.len (rappTo m v x) = 0 ∧ rappTo m v x = D.nil Int ∧ (0 : Int) = x ∧ m = m ∧ validF m = validF m ∧
  D.not (validF m) = D.not (validF m) ∧ D.not (validF m) = D.not (validF m) ∧ c1 = c1 ∧ rappTo m v x = D.nil Int ∧ True) ∧ ∀ (x : Int),
 let c2 := D.lt x (D.ilen m);
 let c3 := D.len (rappTo m v x);
 let c4 := D.get m (D.nat x) (D.nil Int);
 let c5 := D.add x (1 : Int); appIn m v x → (c2 = true → (∃ x_3, appIn2 m v x x_3 ∧ m = m ∧ v = v ∧ c3 = c3 ∧ x = x ∧ (-1099511627776 : Int) = foldI plusF (aterm
  m x v) (-1099511627776 : Int) x_3 ∧ (0 : Int) = x_3 ∧ m = m ∧ validF m = validF m ∧ D.not (validF m) = D.not (validF m) ∧ D.not (validF m) = D.not (validF m) ∧
  c1 = c1 ∧ x = x ∧ m = m ∧ D.ilen m = D.ilen m ∧ c2 = c2 ∧ rappTo m v x = rappTo m v x ∧ True) ∧ ∀ (x_3 : Int),
 let c6 := D.lt x_3 (D.ilen m);
 let c7 := D.get v (D.nat x_3) (0 : Int);
 let c8 := D.not (elemF c7);
 let c9 := D.get c4 (D.nat x_3) (0 : Int);
 let c10 := D.add x_3 (1 : Int);
 let c11 := foldI plusF (aterm m x v) (-1099511627776 : Int) x_3;
 let c12 := [c11];
 let c13 := D.nadd c3 (D.len c12); appIn2 m v x x_3 → (c6 = true → D.ile (0 : Int) x_3 ∧ D.ilt x_3 (D.ilen v) ∧ True ∧ (c8 = true → applyF m v = D.nil Int ∧
  True) ∧ (c8 = false → D.ile (0 : Int) x ∧ D.ilt x (D.ilen m) ∧ D.ile (0 : Int) x_3 ∧ D.ilt x_3 (D.ilen c4) ∧ D.ile (0 : Int) x_3 ∧ D.ilt x_3 (D.ilen v) ∧
  timesP c9 c7 ∧ True ∧ inR IntKind.i64 c10 ∧ ∃ y, appIn2 m v x y ∧ (m = m ∧ v = v ∧ c3 = c3 ∧ x = x ∧ plusF c11 (timesF c9 c7) = foldI plusF (aterm m x v)
  (-1099511627776 : Int) y ∧ c10 = y ∧ m = m ∧ validF m = validF m ∧ D.not (validF m) = D.not (validF m) ∧ D.not (validF m) = D.not (validF m) ∧ c1 = c1 ∧ x = x
  ∧ m = m ∧ D.ilen m = D.ilen m ∧ c2 = c2 ∧ rappTo m v x = rappTo m v x ∧ True) ∧ D.nlt (D.nat (D.sub (D.ilen m) y)) (D.nat (D.sub (D.ilen m) x_3)))) ∧ (c6 =
  false → c3 = c3 ∧ D.nle (D.nmul c13 (8)) (140737488355328) ∧ D.nle c13 (9223372036854775807) ∧ inR IntKind.i64 c5 ∧ ∃ y, appIn m v y ∧ (m = m ∧ v = v ∧ c13 =
  D.len (rappTo m v y) ∧ c5 = y ∧ m = m ∧ validF m = validF m ∧ D.not (validF m) = D.not (validF m) ∧ D.not (validF m) = D.not (validF m) ∧ c1 = c1 ∧ D.app
  (rappTo m v x) c12 = rappTo m v y ∧ True) ∧ D.nlt (D.nat (D.sub (D.ilen m) y)) (D.nat (D.sub (D.ilen m) x)))) ∧ (c2 = false → c3 = c3 ∧ rappTo m v x = applyF m
  v ∧ True)))) :
    evF c9 (rappA m v) 25 [.dat M m, .dat R v] [] ⟨True, .dat R (applyF m v), []⟩ := of_eq (by kernel_rfl) hvc

noncomputable def K10 : Kt := kOr 13 (freshK [.val I] (fun (n, _) => small n) (fun (n, _) => .buf 0 (D.len (oneF n))) fun (n, _) => .mat 23 3 I (oneF n) []) K9
noncomputable def matNames2 (s : St) : List Nat := s.mem.filterMap fun p => match p.2 with
  | .mat _ _ _ _ _ => some p.1
  | _ => none
noncomputable def rstarA (m : List (List Int)) : Ann := ⟨fun id s => match id with
  | 6 => some { α := Int, inv := fun k => starIn m k, st := fun k => put s [(6, .dat I k), (5, .dat M (bestK m k))], μ := fun k => D.nat (D.sub (D.add (D.ilen m) 1) k) }
  | _ => match s.sig.T 5, s.sig.T 7 with
    | .dat (.sl (.sl (.int .i64))) b, .buf nm _ => match id with
      | 10 => some { α := Int, inv := fun k => upto k (D.ilen m), st := fun k => putM (put s [(8, .dat I k)]) nm (.mat 23 3 I (nextT m b (D.ilen m) k 0 0) []), μ := fun k => D.nat (D.sub (D.ilen m) k) }
      | 13 => match s.sig.T 8 with
        | .dat (.int .i64) i => some { α := Int, inv := fun k => upto k (D.ilen m), st := fun k => putM (put s [(9, .dat I k)]) nm (.mat 23 3 I (nextT m b (D.ilen m) i k 0) []), μ := fun k => D.nat (D.sub (D.ilen m) k) }
        | _ => none
      | 16 => match s.sig.T 8, s.sig.T 9 with
        | .dat (.int .i64) i, .dat (.int .i64) j => some { α := Int, inv := fun k => upto k (D.ilen m), st := fun k => putM (put s [(10, .dat I k)]) nm (.mat 23 3 I (nextT m b (D.ilen m) i j k) []), μ := fun k => D.nat (D.sub (D.ilen m) k) }
        | _, _ => none
      | _ => none
    | _, _ => none, fun id s => match id with
  | 5 => some (frz (matNames2 s) s)
  | 20 => some (frz (matNames2 s) s)
  | _ => none, fun _ _ => none⟩
set_option maxRecDepth 100000 in
theorem vc_rstar (m : List (List Int)) (hvc :
 let c1 := oneF (D.ilen m);
 let c2 := D.len c1;
 let c3 := D.add (D.ilen m) (1 : Int); true = true ∧ (True → True ∧ (D.not (validF m) = true → rstarS m = D.nil (List Int) ∧ (1 : Int) = rstarE m ∧ True) ∧
  (D.not (validF m) = false → small (D.ilen m) ∧ m = m ∧ Value.slice none (0) (0) = Value.slice none (0) (0) ∧ (0 : Int) = (0 : Int) ∧ D.ilen m = D.ilen m ∧
  D.len c1 = c2 ∧ c1 = c1 ∧ m = m ∧ validF m = validF m ∧ D.not (validF m) = D.not (validF m) ∧ m = m ∧ D.ilen m = D.ilen m ∧ D.ilen m = D.ilen m ∧ D.len c1 = c2
  ∧ c1 = c1 ∧ (∃ x, starIn m x ∧ m = m ∧ D.ilen m = D.ilen m ∧ c1 = bestK m x ∧ (0 : Int) = x ∧ m = m ∧ validF m = validF m ∧ D.not (validF m) = D.not (validF m)
  ∧ m = m ∧ D.ilen m = D.ilen m ∧ D.ilen m = D.ilen m ∧ c1 = c1 ∧ True) ∧ ∀ (x : Int),
 let c4 := D.le x (D.ilen m);
 let c5 := D.add x (1 : Int); starIn m x → (c4 = true → small (D.ilen m) ∧ (∃ x_3, upto x_3 (D.ilen m) ∧ m = m ∧ D.ilen m = D.ilen m ∧ bestK m x = bestK m x ∧ x
  = x ∧ c2 = c2 ∧ (0 : Int) = x_3 ∧ m = m ∧ validF m = validF m ∧ D.not (validF m) = D.not (validF m) ∧ m = m ∧ D.ilen m = D.ilen m ∧ D.ilen m = D.ilen m ∧ c1 =
  c1 ∧ x = x ∧ D.ilen m = D.ilen m ∧ c4 = c4 ∧ D.ilen m = D.ilen m ∧ c2 = c2 ∧ c1 = nextT m (bestK m x) (D.ilen m) x_3 (0 : Int) (0 : Int) ∧ True) ∧ ∀ (x_3 :
  Int),
 let c6 := D.lt x_3 (D.ilen m);
 let c7 := nextT m (bestK m x) (D.ilen m) x_3 (0 : Int) (0 : Int);
 let c8 := D.get m (D.nat x_3) (D.nil Int);
 let c9 := D.ilen c8;
 let c10 := D.add x_3 (1 : Int);
 let c11 := sameF c7 (bestK m x); upto x_3 (D.ilen m) → (c6 = true → (∃ x_6, upto x_6 (D.ilen m) ∧ m = m ∧ D.ilen m = D.ilen m ∧ bestK m x = bestK m x ∧ x = x ∧
  c2 = c2 ∧ x_3 = x_3 ∧ (0 : Int) = x_6 ∧ m = m ∧ validF m = validF m ∧ D.not (validF m) = D.not (validF m) ∧ m = m ∧ D.ilen m = D.ilen m ∧ D.ilen m = D.ilen m ∧
  c1 = c1 ∧ x = x ∧ D.ilen m = D.ilen m ∧ c4 = c4 ∧ D.ilen m = D.ilen m ∧ c2 = c2 ∧ x_3 = x_3 ∧ D.ilen m = D.ilen m ∧ c6 = c6 ∧ c7 = nextT m (bestK m x) (D.ilen
  m) x_3 x_6 (0 : Int) ∧ True) ∧ ∀ (x_6 : Int),
 let c12 := D.lt x_6 (D.ilen m);
 let c13 := nextT m (bestK m x) (D.ilen m) x_3 x_6 (0 : Int);
 let c14 := D.add x_6 (1 : Int); upto x_6 (D.ilen m) → (c12 = true → (∃ x_9, upto x_9 (D.ilen m) ∧ m = m ∧ D.ilen m = D.ilen m ∧ bestK m x = bestK m x ∧ x = x ∧
  c2 = c2 ∧ x_3 = x_3 ∧ x_6 = x_6 ∧ (0 : Int) = x_9 ∧ m = m ∧ validF m = validF m ∧ D.not (validF m) = D.not (validF m) ∧ m = m ∧ D.ilen m = D.ilen m ∧ D.ilen m
  = D.ilen m ∧ c1 = c1 ∧ x = x ∧ D.ilen m = D.ilen m ∧ c4 = c4 ∧ D.ilen m = D.ilen m ∧ c2 = c2 ∧ x_3 = x_3 ∧ D.ilen m = D.ilen m ∧ c6 = c6 ∧ x_6 = x_6 ∧ D.ilen m
  = D.ilen m ∧ c12 = c12 ∧ c13 = nextT m (bestK m x) (D.ilen m) x_3 x_6 x_9 ∧ True) ∧ ∀ (x_9 : Int),
 let c15 := D.lt x_9 (D.ilen m);
 let c16 := D.get c8 (D.nat x_9) (0 : Int);
 let c17 := D.not (infF c16);
 let c18 := D.get (bestK m x) (D.nat x_9) (D.nil Int);
 let c19 := D.get c18 (D.nat x_6) (0 : Int);
 let c20 := D.cnd c17 (D.gt c19 (-1099511627776 : Int)) false;
 let c21 := nextT m (bestK m x) (D.ilen m) x_3 x_6 x_9;
 let c22 := D.len c21;
 let c23 := D.get c21 (D.nat x_3) (D.nil Int);
 let c24 := D.len c23;
 let c25 := D.add c16 c19;
 let c26 := D.add x_9 (1 : Int); upto x_9 (D.ilen m) → (c15 = true → D.ile (0 : Int) x_3 ∧ D.ilt x_3 (D.ilen m) ∧ D.ile (0 : Int) x_9 ∧ D.ilt x_9 c9 ∧ True ∧
  (c17 = true → c17 = true → c17 = true) ∧ (c17 = true → c17 = true → c17 = true) ∧ (c17 = true → D.ile (0 : Int) x_9) ∧ (c17 = true → D.ilt x_9 (D.ilen (bestK m
  x))) ∧ (c17 = true → c17 = true → c17 = true) ∧ (c17 = true → c17 = true → c17 = true) ∧ (c17 = true → c17 = true → c17 = true) ∧ (c17 = true → D.ile (0 : Int)
  x_6) ∧ (c17 = true → D.ilt x_6 (D.ilen c18)) ∧ (c17 = true → c17 = true → c17 = true) ∧ (c17 = true → c17 = true → c17 = true) ∧ (D.and true c17 = true → c17 =
  true) ∧ (c20 = true → c22 = c2 ∧ D.ile (0 : Int) x_3 ∧ D.ilt x_3 (D.ofN c22) ∧ c22 = c2 ∧ c22 = c2 ∧ D.ile (0 : Int) x_3 ∧ D.ilt x_3 (D.ofN c22) ∧ c22 = c2 ∧
  c22 = c2 ∧ D.ile (0 : Int) x_6 ∧ D.ilt x_6 (D.ofN c24) ∧ c22 = c2 ∧ c24 = c24 ∧ D.ile (0 : Int) x_3 ∧ D.ilt x_3 (D.ilen m) ∧ D.ile (0 : Int) x_9 ∧ D.ilt x_9 c9
  ∧ D.ile (0 : Int) x_9 ∧ D.ilt x_9 (D.ilen (bestK m x)) ∧ D.ile (0 : Int) x_6 ∧ D.ilt x_6 (D.ilen c18) ∧ inR IntKind.i64 c25 ∧ c22 = c2 ∧ D.ile (0 : Int) x_6 ∧
  D.ilt x_6 (D.ofN c24) ∧ c22 = c2 ∧ c24 = c24 ∧ inR IntKind.i64 c26 ∧ ∃ y, upto y (D.ilen m) ∧ (m = m ∧ D.ilen m = D.ilen m ∧ bestK m x = bestK m x ∧ x = x ∧ c2
  = c2 ∧ x_3 = x_3 ∧ x_6 = x_6 ∧ c26 = y ∧ m = m ∧ validF m = validF m ∧ D.not (validF m) = D.not (validF m) ∧ m = m ∧ D.ilen m = D.ilen m ∧ D.ilen m = D.ilen m
  ∧ c1 = c1 ∧ x = x ∧ D.ilen m = D.ilen m ∧ c4 = c4 ∧ D.ilen m = D.ilen m ∧ c2 = c2 ∧ x_3 = x_3 ∧ D.ilen m = D.ilen m ∧ c6 = c6 ∧ x_6 = x_6 ∧ D.ilen m = D.ilen m
  ∧ c12 = c12 ∧ D.set c21 (D.nat x_3) (D.set c23 (D.nat x_6) (D.mx (D.get c23 (D.nat x_6) (0 : Int)) c25)) = nextT m (bestK m x) (D.ilen m) x_3 x_6 y ∧ True) ∧
  D.nlt (D.nat (D.sub (D.ilen m) y)) (D.nat (D.sub (D.ilen m) x_9))) ∧ (c20 = false → inR IntKind.i64 c26 ∧ ∃ y, upto y (D.ilen m) ∧ (m = m ∧ D.ilen m = D.ilen m
  ∧ bestK m x = bestK m x ∧ x = x ∧ c2 = c2 ∧ x_3 = x_3 ∧ x_6 = x_6 ∧ c26 = y ∧ m = m ∧ validF m = validF m ∧ D.not (validF m) = D.not (validF m) ∧ m = m ∧
  D.ilen m = D.ilen m ∧ D.ilen m = D.ilen m ∧ c1 = c1 ∧ x = x ∧ D.ilen m = D.ilen m ∧ c4 = c4 ∧ D.ilen m = D.ilen m ∧ c2 = c2 ∧ x_3 = x_3 ∧ D.ilen m = D.ilen m ∧
  c6 = c6 ∧ x_6 = x_6 ∧ D.ilen m = D.ilen m ∧ c12 = c12 ∧ c21 = nextT m (bestK m x) (D.ilen m) x_3 x_6 y ∧ True) ∧ D.nlt (D.nat (D.sub (D.ilen m) y)) (D.nat
  (D.sub (D.ilen m) x_9)))) ∧ (c15 = false → inR IntKind.i64 c14 ∧ ∃ y, upto y (D.ilen m) ∧ (m = m ∧ D.ilen m = D.ilen m ∧ bestK m x = bestK m x ∧ x = x ∧ c2 =
  c2 ∧ x_3 = x_3 ∧ c14 = y ∧ m = m ∧ validF m = validF m ∧ D.not (validF m) = D.not (validF m) ∧ m = m ∧ D.ilen m = D.ilen m ∧ D.ilen m = D.ilen m ∧ c1 = c1 ∧ x
  = x ∧ D.ilen m = D.ilen m ∧ c4 = c4 ∧ D.ilen m = D.ilen m ∧ c2 = c2 ∧ x_3 = x_3 ∧ D.ilen m = D.ilen m ∧ c6 = c6 ∧ c21 = nextT m (bestK m x) (D.ilen m) x_3 y (0
  : Int) ∧ True) ∧ D.nlt (D.nat (D.sub (D.ilen m) y)) (D.nat (D.sub (D.ilen m) x_6)))) ∧ (c12 = false → inR IntKind.i64 c10 ∧ ∃ y, upto y (D.ilen m) ∧ (m = m ∧
  D.ilen m = D.ilen m ∧ bestK m x = bestK m x ∧ x = x ∧ c2 = c2 ∧ c10 = y ∧ m = m ∧ validF m = validF m ∧ D.not (validF m) = D.not (validF m) ∧ m = m ∧ D.ilen m
  = D.ilen m ∧ D.ilen m = D.ilen m ∧ c1 = c1 ∧ x = x ∧ D.ilen m = D.ilen m ∧ c4 = c4 ∧ D.ilen m = D.ilen m ∧ c2 = c2 ∧ c13 = nextT m (bestK m x) (D.ilen m) y (0
  : Int) (0 : Int) ∧ True) ∧ D.nlt (D.nat (D.sub (D.ilen m) y)) (D.nat (D.sub (D.ilen m) x_3)))) ∧ (c6 = false → m = m ∧ D.ilen m = D.ilen m ∧ bestK m x = bestK
  m x ∧ x = x ∧ D.len c7 = c2 ∧ c7 = c7 ∧ x_3 = x_3 ∧ m = m ∧ validF m = validF m ∧ D.not (validF m) = D.not (validF m) ∧ m = m ∧ D.ilen m = D.ilen m ∧ D.ilen m
  = D.ilen m ∧ c1 = c1 ∧ x = x ∧ D.ilen m = D.ilen m ∧ c4 = c4 ∧ D.ilen m = D.ilen m ∧ D.len c7 = c2 ∧ c7 = c7 ∧ x_3 = x_3 ∧ D.ilen m = D.ilen m ∧ c6 = c6 ∧
  lensOk c7 ∧ (c11 = true → bestK m x = rstarS m ∧ (0 : Int) = rstarE m ∧ True) ∧ (c11 = false → inR IntKind.i64 c5 ∧ ∃ y, starIn m y ∧ (m = m ∧ D.ilen m =
  D.ilen m ∧ c7 = bestK m y ∧ c5 = y ∧ m = m ∧ validF m = validF m ∧ D.not (validF m) = D.not (validF m) ∧ m = m ∧ D.ilen m = D.ilen m ∧ D.ilen m = D.ilen m ∧ c1
  = c1 ∧ True) ∧ D.nlt (D.nat (D.sub c3 y)) (D.nat (D.sub c3 x))))) ∧ (c4 = false → rstarS m = D.nil (List Int) ∧ (120 : Int) = rstarE m ∧ True)))) :
    evF (Sv.mkc K10) (rstarA m) 15 [.dat M m] [] ⟨True, .tup [.dat M (rstarS m), .dat I (rstarE m)], []⟩ := of_eq (by kernel_rfl) hvc

theorem KS9 : KSound Try.prog G0 K9 := by
  intro f args m c h
  unfold K9 at h
  split at h
  · cases h; exact s_same _ _
  · cases h; exact s_rvalid _
  · exact KS8 _ _ _ _ h
theorem upto_end {k n : Int} (h : upto k n) (hn : 0 ≤ n) (hk : ¬ k < n) : k = n := by have := h.1; have := h.2; omega
/-- The step of a row that is appended to. -/
theorem row_next {g : Int → Int → Int} {n i k v : Int} (hn : n ≤ 1000000) (h : upto k n) (hk : k < n) (hv : v = g i k) : ((rTo g n i k).length + [v].length) * 8 ≤ 140737488355328 ∧ (rTo g n i k).length + [v].length ≤ 9223372036854775807 ∧ inR .i64 (k + 1) ∧
    ∃ y, upto y n ∧ ((rTo g n i k).length + [v].length = (rTo g n i y).length ∧ k + 1 = y ∧ rTo g n i k ++ [v] = rTo g n i y) ∧ (n - y).toNat < (n - k).toNat := by
  subst hv
  have h0 := h.1
  have h2 : upto (k + 1) n := ⟨by omega, .inl (by omega)⟩
  have l1 := rTo_len (g := g) (i := i) h
  have l2 := rTo_len (g := g) (i := i) h2
  rw [List.length_singleton, l1]
  exact ⟨by omega, by omega, in_small (by omega), k + 1, h2, ⟨by rw [l2]; omega, rfl, (rTo_succ h0 hk).symm⟩, by omega⟩
theorem tab_next {g : Int → Int → Int} {n k y : Int} (hn : n ≤ 1000000) (h : upto k n) (hk : k < n) (hy : upto y n) (hy2 : ¬ y < n) : ((tabTo g n k).length + [rTo g n k y].length) * 24 ≤ 140737488355328 ∧ (tabTo g n k).length + [rTo g n k y].length ≤ 9223372036854775807 ∧ inR .i64 (k + 1) ∧
    ∃ z, upto z n ∧ ((tabTo g n k).length + [rTo g n k y].length = (tabTo g n z).length ∧ k + 1 = z ∧ tabTo g n k ++ [rTo g n k y] = tabTo g n z) ∧ (n - z).toNat < (n - k).toNat := by
  have h0 := h.1
  have h2 : upto (k + 1) n := ⟨by omega, .inl (by omega)⟩
  have l1 := tabTo_len (g := g) h
  have l2 := tabTo_len (g := g) h2
  rw [List.length_singleton, l1]
  exact ⟨by omega, by omega, in_small (by omega), k + 1, h2, ⟨by rw [l2]; omega, rfl, (tabTo_succ h0 hk hy hy2).symm⟩, by omega⟩
theorem upto_zero (n : Int) : upto 0 n := ⟨Int.le_refl _, .inr rfl⟩
theorem s_one (n : Int) : SoundC Try.prog G0 13 [.dat I n] [] ⟨small n, .dat M (oneF n), []⟩ := by
  refine sound_of_ev (c := { c9 with mb := fun t => t == 12 }) KS9 KI0s hm (vc_one n ⟨rfl, fun hp => ?_⟩)
  have hp : n ≤ 1000000 := hp
  simp only [cnd_or, cnd_and, D.and, D.or, D.not, Bool.true_and, Bool.and_true, Bool.false_or, Bool.or_false, eq_self, true_and, and_true, imp_self, implies_true, Bool.not_eq_true', Bool.or_eq_true, Bool.or_eq_false_iff, Bool.not_eq_false', Bool.and_eq_true, Bool.and_eq_false_imp, Bool.not_not, forall_const, exists_eq_right, exists_eq_right', exists_eq_left, exists_eq_left', Int.toNat_natCast, Nat.zero_add, Nat.mul_one, Int.ofNat_eq_natCast, D.nil, D.eq, D.ne, D.lt, D.gt, D.le, D.ge, D.beq, D.ilen, D.slen, D.ile, D.ilt, D.ine, D.nle, D.nlt, D.sub, D.add, D.mul, D.neg, D.nat, D.ofN, D.len, D.nadd, D.nmul, D.get, D.mn, D.mx, D.set, D.app, D.tail, D.part, D.seg, D.rep, D.at2, decide_eq_true_eq, decide_eq_false_iff_not, beq_iff_eq, bne_iff_ne, beq_eq_false_iff_ne, bne_eq_false_iff_eq, D.wrap, D.allNil]
  refine ⟨⟨0, upto_zero n, by rw [tabTo_zero]; rfl, tabTo_zero _ _, rfl, tabTo_zero _ _⟩, fun x hx => ⟨fun hlt => ⟨⟨0, upto_zero n, by rw [rTo_zero]; rfl, rfl, (rTo_zero _ _ _).symm⟩, fun y hy => ⟨fun hlt2 => ⟨fun he => row_next hp hy hlt2 ?_, fun he => row_next hp hy hlt2 ?_⟩, fun hge => tab_next hp hx hlt hy hge⟩⟩, fun hge => tabTo_end hx hge⟩⟩
  · simp [one1, he]
  · simp [one1, he]
theorem s_oneM (n : Int) : SoundC Try.prog G0 13 [.dat I n] [] ⟨small n, .buf 0 (D.len (oneF n)), [(0, .mat 23 3 I (oneF n) [])]⟩ := by
  refine sound_of_ev (c := { c9 with mb := fun t => t == 12 || t == 29 }) KS9 KI0s hm (vc_oneM n ⟨rfl, fun hp => ?_⟩)
  have hp : n ≤ 1000000 := hp
  simp only [cnd_or, cnd_and, D.and, D.or, D.not, Bool.true_and, Bool.and_true, Bool.false_or, Bool.or_false, eq_self, true_and, and_true, imp_self, implies_true, Bool.not_eq_true', Bool.or_eq_true, Bool.or_eq_false_iff, Bool.not_eq_false', Bool.and_eq_true, Bool.and_eq_false_imp, Bool.not_not, forall_const, exists_eq_right, exists_eq_right', exists_eq_left, exists_eq_left', Int.toNat_natCast, Nat.zero_add, Nat.mul_one, Int.ofNat_eq_natCast, D.nil, D.eq, D.ne, D.lt, D.gt, D.le, D.ge, D.beq, D.ilen, D.slen, D.ile, D.ilt, D.ine, D.nle, D.nlt, D.sub, D.add, D.mul, D.neg, D.nat, D.ofN, D.len, D.nadd, D.nmul, D.get, D.mn, D.mx, D.set, D.app, D.tail, D.part, D.seg, D.rep, D.at2, decide_eq_true_eq, decide_eq_false_iff_not, beq_iff_eq, bne_iff_ne, beq_eq_false_iff_ne, bne_eq_false_iff_eq, D.wrap, D.allNil]
  refine ⟨⟨0, upto_zero n, by rw [tabTo_zero]; rfl, rfl, (tabTo_zero _ _).symm, fun r hr => by rw [tabTo_zero] at hr; cases hr⟩, fun x hx => ⟨fun hlt => ⟨⟨0, upto_zero n, by rw [rTo_zero]; rfl, rfl, (rTo_zero _ _ _).symm⟩, fun y hy => ⟨fun hlt2 => ⟨fun he => row_next hp hy hlt2 ?_, fun he => row_next hp hy hlt2 ?_⟩, fun hge => ?_⟩⟩, fun hge => ?_⟩⟩
  · simp [one1, he]
  · simp [one1, he]
  · obtain ⟨q1, q2, q3, z, q4, ⟨q5, q6, q7⟩, q8⟩ := tab_next (g := one1) hp hx hlt hy hge
    refine ⟨q1, q2, q3, z, q4, ⟨q5, q6, ?_⟩, q8⟩
    rw [← q7, List.set_append_right _ _ (Nat.le_refl _), Nat.sub_self]; rfl
  · rw [tabTo_end hx hge]; exact ⟨rfl, rfl⟩
theorem alike_cnd (a b : List (List Int)) : D.cnd (D.cnd (!validF a) true !validF b) true ((a.length : Int) != b.length) = !alikeF a b := by
  unfold alikeF
  cases validF a <;> cases validF b <;> simp [D.cnd, bne]
  by_cases h : (a.length : Int) = b.length <;> simp [h]
theorem at_bnd {a : List (List Int)} {n : Nat} (h : Sq n a) {x : Int} (h0 : 0 ≤ x) (h1 : x < n) : x < a.length ∧ ((a.getD x.toNat []).length : Int) = n := by
  have := h.len; have := h.row x h0 h1
  omega
theorem s_rsum (a b : List (List Int)) : SoundC Try.prog G0 20 [.dat M a, .dat M b] [] ⟨True, .dat M (sumF a b), []⟩ := by
  refine sound_of_ev (c := c9) KS9 KI0s hm (vc_rsum a b ⟨rfl, fun _ => ?_⟩)
  have hc := alike_cnd a b
  simp only [Int.toNat_natCast, Nat.zero_add, Nat.mul_one, Int.ofNat_eq_natCast, D.nil, D.eq, D.ne, D.lt, D.gt, D.le, D.ge, D.beq, D.ilen, D.slen, D.ile, D.ilt, D.ine, D.nle, D.nlt, D.sub, D.add, D.mul, D.neg, D.nat, D.ofN, D.len, D.nadd, D.nmul, D.get, D.mn, D.mx, D.set, D.app, D.tail, D.part, D.seg, D.rep, D.at2, decide_eq_true_eq, decide_eq_false_iff_not, beq_iff_eq, bne_iff_ne, beq_eq_false_iff_ne, bne_eq_false_iff_eq, D.wrap, D.allNil]
  rw [hc]
  simp only [cnd_or, cnd_and, D.and, D.or, D.not, Bool.true_and, Bool.and_true, Bool.false_or, Bool.or_false, eq_self, true_and, and_true, imp_self, implies_true, Bool.not_eq_true', Bool.or_eq_true, Bool.or_eq_false_iff, Bool.not_eq_false', Bool.and_eq_true, Bool.and_eq_false_imp, Bool.not_not, forall_const, exists_eq_right, exists_eq_right', exists_eq_left, exists_eq_left', Int.toNat_natCast, Nat.zero_add, Nat.mul_one, Int.ofNat_eq_natCast, D.nil, D.eq, D.ne, D.lt, D.gt, D.le, D.ge, D.beq, D.ilen, D.slen, D.ile, D.ilt, D.ine, D.nle, D.nlt, D.sub, D.add, D.mul, D.neg, D.nat, D.ofN, D.len, D.nadd, D.nmul, D.get, D.mn, D.mx, D.set, D.app, D.tail, D.part, D.seg, D.rep, D.at2, decide_eq_true_eq, decide_eq_false_iff_not, beq_iff_eq, bne_iff_ne, beq_eq_false_iff_ne, bne_eq_false_iff_eq, D.wrap, D.allNil]
  refine ⟨fun h => by simp [sumF, h], fun h => ?_⟩
  obtain ⟨h1, h2, h3⟩ := alike_iff.1 h
  obtain ⟨sa, la, _⟩ := valid_sq h1
  obtain ⟨sb, _, _⟩ := valid_sq h2
  rw [← h3] at sb
  have e : sumF a b = buildF (plus2 a b) a.length := by simp [sumF, h]
  refine ⟨⟨0, upto_zero _, by rw [tabTo_zero]; rfl, tabTo_zero _ _, rfl, tabTo_zero _ _⟩, fun x hx => ⟨fun hlt => ⟨⟨0, upto_zero _, by rw [rTo_zero]; rfl, rTo_zero _ _ _, rfl, rTo_zero _ _ _⟩, fun y hy => ⟨fun hlt2 => ?_, fun hge => tab_next (by omega) hx hlt hy hge⟩⟩, fun hge => by rw [e]; exact tabTo_end hx hge⟩⟩
  obtain ⟨q1, q2⟩ := at_bnd sa hx.1 hlt
  obtain ⟨q3, q4⟩ := at_bnd sb hx.1 hlt
  exact ⟨hx.1, hlt, hy.1, by omega, hx.1, q3, hy.1, by omega, row_next (by omega) hy hlt2 rfl⟩
theorem s_rprod (a b : List (List Int)) : SoundC Try.prog G0 22 [.dat M a, .dat M b] [] ⟨True, .dat M (prodF a b), []⟩ := by
  refine sound_of_ev (c := c9) KS9 KI0s hm (vc_rprod a b ⟨rfl, fun _ => ?_⟩)
  have hc := alike_cnd a b
  simp only [Int.toNat_natCast, Nat.zero_add, Nat.mul_one, Int.ofNat_eq_natCast, D.nil, D.eq, D.ne, D.lt, D.gt, D.le, D.ge, D.beq, D.ilen, D.slen, D.ile, D.ilt, D.ine, D.nle, D.nlt, D.sub, D.add, D.mul, D.neg, D.nat, D.ofN, D.len, D.nadd, D.nmul, D.get, D.mn, D.mx, D.set, D.app, D.tail, D.part, D.seg, D.rep, D.at2, decide_eq_true_eq, decide_eq_false_iff_not, beq_iff_eq, bne_iff_ne, beq_eq_false_iff_ne, bne_eq_false_iff_eq, D.wrap, D.allNil]
  rw [hc]
  simp only [cnd_or, cnd_and, D.and, D.or, D.not, Bool.true_and, Bool.and_true, Bool.false_or, Bool.or_false, eq_self, true_and, and_true, imp_self, implies_true, Bool.not_eq_true', Bool.or_eq_true, Bool.or_eq_false_iff, Bool.not_eq_false', Bool.and_eq_true, Bool.and_eq_false_imp, Bool.not_not, forall_const, exists_eq_right, exists_eq_right', exists_eq_left, exists_eq_left', Int.toNat_natCast, Nat.zero_add, Nat.mul_one, Int.ofNat_eq_natCast, D.nil, D.eq, D.ne, D.lt, D.gt, D.le, D.ge, D.beq, D.ilen, D.slen, D.ile, D.ilt, D.ine, D.nle, D.nlt, D.sub, D.add, D.mul, D.neg, D.nat, D.ofN, D.len, D.nadd, D.nmul, D.get, D.mn, D.mx, D.set, D.app, D.tail, D.part, D.seg, D.rep, D.at2, decide_eq_true_eq, decide_eq_false_iff_not, beq_iff_eq, bne_iff_ne, beq_eq_false_iff_ne, bne_eq_false_iff_eq, D.wrap, D.allNil]
  refine ⟨fun h => by simp [prodF, h], fun h => ?_⟩
  obtain ⟨h1, h2, h3⟩ := alike_iff.1 h
  obtain ⟨sa, la, ea⟩ := valid_sq h1
  obtain ⟨sb, _, eb⟩ := valid_sq h2
  rw [← h3] at sb eb
  have e : prodF a b = buildF (dotF a b) a.length := by simp [prodF, h]
  refine ⟨⟨0, upto_zero _, by rw [tabTo_zero]; rfl, tabTo_zero _ _, rfl, tabTo_zero _ _⟩, fun x hx => ⟨fun hlt => ⟨⟨0, upto_zero _, by rw [rTo_zero]; rfl, rTo_zero _ _ _, rfl, rTo_zero _ _ _⟩, fun y hy => ⟨fun hlt2 => ⟨⟨0, upto_zero _, rfl, rfl⟩, fun z hz => ⟨fun hlt3 => ?_, fun hge => row_next (by omega) hy hlt2 ?_⟩⟩, fun hge => tab_next (by omega) hx hlt hy hge⟩⟩, fun hge => by rw [e]; exact tabTo_end hx hge⟩⟩
  · obtain ⟨q1, q2⟩ := at_bnd sa hx.1 hlt
    obtain ⟨q3, q4⟩ := at_bnd sb hz.1 hlt3
    have z0 := hz.1
    refine ⟨hx.1, hlt, hz.1, by omega, hz.1, q3, hy.1, by omega, elem_times (ea x z hx.1 hlt hz.1 hlt3) (eb z y hz.1 hlt3 hy.1 hlt2), in_small (by omega), z + 1, ⟨by omega, .inl (by omega)⟩, ⟨?_, rfl⟩, by omega⟩
    rw [foldI_succ _ _ _ _ hz.1]; rfl
  · have := upto_end hz (by omega) hge
    rw [this]; rfl
theorem rapp_len {m : List (List Int)} {v : List Int} {k : Int} (h0 : 0 ≤ k) (h1 : k ≤ m.length) : (rappTo m v k).length = k.toNat := by
  simp only [rappTo, List.length_take, List.length_map, List.length_range]; omega
theorem rapp_succ {m : List (List Int)} {v : List Int} {k : Int} (h0 : 0 ≤ k) (h1 : k < m.length) : rappTo m v (k + 1) = rappTo m v k ++ [foldI plusF (aterm m k v) (-1099511627776) v.length] := by
  unfold rappTo
  rw [show (k + 1).toNat = k.toNat + 1 by omega, take_succ_getD _ 0 _ (by simp only [List.length_map, List.length_range]; omega)]
  congr 2
  rw [List.getD_eq_getElem?_getD, List.getElem?_map, List.getElem?_range (by omega)]
  simp [Int.toNat_of_nonneg h0]
theorem app_cnd (m : List (List Int)) (v : List Int) : D.cnd (!validF m) true ((v.length : Int) != m.length) = !(validF m && decide (v.length = m.length)) := by
  cases validF m <;> simp [D.cnd, bne]
  by_cases h : v.length = m.length
  · simp [h]
  · simp [h]; omega
theorem s_rapp (m : List (List Int)) (v : List Int) : SoundC Try.prog G0 25 [.dat M m, .dat R v] [] ⟨True, .dat R (applyF m v), []⟩ := by
  refine sound_of_ev (c := c9) KS9 KI0s hm (vc_rapp m v ⟨rfl, fun _ => ?_⟩)
  have hc := app_cnd m v
  simp only [Int.toNat_natCast, Nat.zero_add, Nat.mul_one, Int.ofNat_eq_natCast, D.nil, D.eq, D.ne, D.lt, D.gt, D.le, D.ge, D.beq, D.ilen, D.slen, D.ile, D.ilt, D.ine, D.nle, D.nlt, D.sub, D.add, D.mul, D.neg, D.nat, D.ofN, D.len, D.nadd, D.nmul, D.get, D.mn, D.mx, D.set, D.app, D.tail, D.part, D.seg, D.rep, D.at2, decide_eq_true_eq, decide_eq_false_iff_not, beq_iff_eq, bne_iff_ne, beq_eq_false_iff_ne, bne_eq_false_iff_eq, D.wrap, D.allNil]
  rw [hc]
  simp only [cnd_or, cnd_and, D.and, D.or, D.not, Bool.true_and, Bool.and_true, Bool.false_or, Bool.or_false, eq_self, true_and, and_true, imp_self, implies_true, Bool.not_eq_true', Bool.or_eq_true, Bool.or_eq_false_iff, Bool.not_eq_false', Bool.and_eq_true, Bool.and_eq_false_imp, Bool.not_not, forall_const, exists_eq_right, exists_eq_right', exists_eq_left, exists_eq_left', Int.toNat_natCast, Nat.zero_add, Nat.mul_one, Int.ofNat_eq_natCast, D.nil, D.eq, D.ne, D.lt, D.gt, D.le, D.ge, D.beq, D.ilen, D.slen, D.ile, D.ilt, D.ine, D.nle, D.nlt, D.sub, D.add, D.mul, D.neg, D.nat, D.ofN, D.len, D.nadd, D.nmul, D.get, D.mn, D.mx, D.set, D.app, D.tail, D.part, D.seg, D.rep, D.at2, decide_eq_true_eq, decide_eq_false_iff_not, beq_iff_eq, bne_iff_ne, beq_eq_false_iff_ne, bne_eq_false_iff_eq, D.wrap, D.allNil]
  refine ⟨fun h => ?_, fun ⟨h1, h2⟩ => ?_⟩
  · cases hv : validF m with
    | false => simp [applyF, hv]
    | true =>
      have : ¬ (v.length : Int) = m.length := by have := h hv; omega
      simp [applyF, this]
  obtain ⟨sq, le, el⟩ := valid_sq h1
  have h2' : (v.length : Int) = m.length := by omega
  refine ⟨⟨0, ⟨Int.le_refl _, by omega, h1, h2, fun h => by omega⟩, by simp [rappTo], by simp [rappTo], rfl, by simp [rappTo]⟩, fun x hx => ⟨fun hlt => ⟨⟨0, ⟨Int.le_refl _, by omega, fun j h0 hj => by omega⟩, rfl, rfl⟩, fun y hy => ⟨fun hlt2 => ⟨hy.1, by omega, fun hb => ?_, fun hb => ?_⟩, fun hge => ?_⟩⟩, fun hge => ?_⟩⟩
  · have : wrongF v = true := by
      cases hw : wrongF v with
      | true => rfl
      | false => rw [show v.getD y.toNat 0 = at1 v y from rfl, wrongF_false.1 hw y hy.1 (by omega)] at hb; cases hb
    simp [applyF, this]
  · obtain ⟨q1, q2⟩ := at_bnd sq hx.1 hlt
    have y0 := hy.1
    refine ⟨hx.1, hlt, hy.1, by omega, hy.1, by omega, elem_times (el x y hx.1 hlt hy.1 hlt2) hb, in_small (by omega), y + 1, ⟨by omega, by omega, fun j h0 hj => ?_⟩, ⟨?_, rfl⟩, by omega⟩
    · by_cases e : j < y
      · exact hy.2.2 j h0 e
      · have : j = y := by omega
        subst this; exact hb
    · rw [foldI_succ _ _ _ _ hy.1]; rfl
  · have ey : y = v.length := by have := hy.1; have := hy.2.1; omega
    have hw : wrongF v = false := wrongF_false.2 fun k h0 hk => hy.2.2 k h0 (by omega)
    have x0 := hx.1
    have l1 := rapp_len (m := m) (v := v) hx.1 (k := x) (by omega)
    have l2 := rapp_len (m := m) (v := v) (k := x + 1) (by omega) (by omega)
    rw [List.length_singleton, ey]
    exact ⟨by omega, by omega, in_small (by omega), x + 1, ⟨by omega, by omega, h1, h2, fun _ => hw⟩, ⟨by omega, rfl, (rapp_succ hx.1 hlt).symm⟩, by omega⟩
  · have ex : x = m.length := by have := hx.1; have := hx.2.1; omega
    have e : rappTo m v x = (List.range m.length).map fun i : Nat => foldI plusF (aterm m i v) (-1099511627776) v.length := by
      unfold rappTo
      rw [List.take_of_length_le (by simp; omega)]
    rw [e]
    cases hm0 : m.length with
    | zero =>
      have : m = [] := List.length_eq_zero_iff.1 hm0
      subst this
      simp [applyF]
    | succ q =>
      have hw := hx.2.2.2.2 (by omega)
      rw [← hm0]
      simp [applyF, h1, h2', hw]
theorem KS10 : KSound Try.prog G0 K10 := kOr_ok (freshK_ok fun (n, _) => s_oneM n) KS9
noncomputable def setM (m : List (List Int)) (o d v : Int) : List (List Int) := m.set o.toNat ((m.getD o.toNat []).set d.toNat v)
theorem set_at {m : List (List Int)} {q : Nat} (hl : m.length = q) (hr : ∀ o : Int, 0 ≤ o → o < q → (m.getD o.toNat []).length = q) {o d : Int} (o0 : 0 ≤ o) (o1 : o < q) (d0 : 0 ≤ d) (d1 : d < q) (v : Int) {i j : Int} (i0 : 0 ≤ i) (i1 : i < q) (j0 : 0 ≤ j) (j1 : j < q) :
    at2 (setM m o d v) i j = if i = o ∧ j = d then v else at2 m i j := by
  unfold at2 setM
  have h1 := hr o o0 o1
  rw [List.getD_eq_getElem?_getD (l := m.set _ _), List.getElem?_set]
  by_cases e : o.toNat = i.toNat
  · have ei : i = o := by omega
    subst ei
    rw [if_pos rfl, if_pos (by omega), Option.getD_some, List.getD_eq_getElem?_getD, List.getElem?_set]
    by_cases e2 : d.toNat = j.toNat
    · have ej : j = d := by omega
      subst ej
      rw [if_pos rfl, if_pos (by omega), if_pos ⟨rfl, rfl⟩]; rfl
    · rw [if_neg e2, if_neg (fun g => e2 (by rw [g.2]))]
      rw [List.getD_eq_getElem?_getD (l := m.getD i.toNat [])]
  · rw [if_neg e, if_neg (fun g => e (by rw [g.1])), ← List.getD_eq_getElem?_getD]
theorem set_sq {m : List (List Int)} {q : Nat} (h : Sq q m) {o d : Int} (o0 : 0 ≤ o) (o1 : o < q) (v : Int) : Sq q (setM m o d v) := by
  unfold setM
  refine ⟨by rw [List.length_set]; exact h.len, fun i i0 i1 => ?_⟩
  have hl := h.len
  rw [List.getD_eq_getElem?_getD, List.getElem?_set]
  by_cases e : o.toNat = i.toNat
  · rw [if_pos e, if_pos (by omega), Option.getD_some, List.length_set]; exact h.row o o0 o1
  · rw [if_neg e, ← List.getD_eq_getElem?_getD]; exact h.row i i0 i1
section
variable {m b : List (List Int)} {n : Nat}
theorem nextT_sq (a c k : Int) : Sq n (nextT m b n a c k) := buildF_sq _ _
theorem nextT_at {a c k i j : Int} (hi : In n i) (hj : In n j) : at2 (nextT m b n a c k) i j = nextG m b n a c k i j := buildF_at _ _ _ _ hi.1 hi.2 hj.1 hj.2
theorem nextT_ext {a c k a' c' k' : Int} (h : ∀ i j, In n i → In n j → nextG m b n a c k i j = nextG m b n a' c' k' i j) : nextT m b n a c k = nextT m b n a' c' k' :=
  sq_ext (nextT_sq _ _ _) (nextT_sq _ _ _) fun i j h0 hi h1 hj => by rw [nextT_at ⟨h0, hi⟩ ⟨h1, hj⟩, nextT_at ⟨h0, hi⟩ ⟨h1, hj⟩, h i j ⟨h0, hi⟩ ⟨h1, hj⟩]
theorem nextT_zero : oneF (n : Int) = nextT m b n 0 0 0 := by
  refine sq_ext (buildF_sq _ _) (nextT_sq _ _ _) fun i j h0 hi h1 hj => ?_
  rw [nextT_at ⟨h0, hi⟩ ⟨h1, hj⟩]
  show at2 (buildF one1 n) i j = _
  rw [buildF_at _ _ _ _ h0 hi h1 hj]
  unfold nextG
  rw [if_neg (by omega)]
  by_cases e : i = 0 ∧ j = 0
  · rw [if_pos e]; rfl
  · rw [if_neg e]
theorem nextT_col {a c k : Int} (hk : upto k n) (hk2 : ¬ k < n) : nextT m b n a c k = nextT m b n a (c + 1) 0 := by
  have := upto_end hk (by omega) hk2
  subst this
  refine nextT_ext fun i j hi hj => ?_
  unfold nextG
  by_cases e : i < a ∨ i = a ∧ j < c
  · rw [if_pos e, if_pos (by omega)]
  · rw [if_neg e]
    by_cases e2 : i = a ∧ j = c
    · rw [if_pos e2, if_pos (by omega)]
    · rw [if_neg e2, if_neg (by omega)]
      by_cases e3 : i = a ∧ j = c + 1
      · rw [if_pos e3]; rfl
      · rw [if_neg e3]
theorem nextT_row {a c : Int} (hc : upto c n) (hc2 : ¬ c < n) : nextT m b n a c 0 = nextT m b n (a + 1) 0 0 := by
  have := upto_end hc (by omega) hc2
  subst this
  refine nextT_ext fun i j hi hj => ?_
  have h1 := hj.1; have h2 := hj.2
  unfold nextG
  by_cases e : i < a ∨ i = a ∧ j < n
  · rw [if_pos e, if_pos (by omega)]
  · rw [if_neg e, if_neg (by omega), if_neg (by omega)]
    by_cases e3 : i = a + 1 ∧ j = 0
    · rw [if_pos e3]; rfl
    · rw [if_neg e3]
theorem nextT_end {a : Int} (ha : upto a n) (ha2 : ¬ a < n) : nextT m b n a 0 0 = buildF (fun i j => cellK m b i j n) n := by
  have := upto_end ha (by omega) ha2
  subst this
  refine sq_ext (nextT_sq _ _ _) (buildF_sq _ _) fun i j h0 hi h1 hj => ?_
  rw [nextT_at ⟨h0, hi⟩ ⟨h1, hj⟩, buildF_at _ _ _ _ h0 hi h1 hj]
  unfold nextG
  rw [if_pos (.inl hi)]
theorem cellK_succ {i j k : Int} (h0 : 0 ≤ k) : cellK m b i j (k + 1) = stp m b i j k (cellK m b i j k) := by
  unfold cellK
  rw [show (k + 1).toNat = k.toNat + 1 by omega]
  show stp m b i j (k.toNat : Int) _ = _
  rw [Int.toNat_of_nonneg h0]
theorem nextT_set {a c k v : Int} (ha : In n a) (hc : In n c) (h0 : 0 ≤ k) (hv : v = cellK m b a c (k + 1)) : setM (nextT m b n a c k) a c v = nextT m b n a c (k + 1) := by
  have sq := nextT_sq (m := m) (b := b) (n := n) a c k
  refine sq_ext (set_sq sq ha.1 ha.2 v) (nextT_sq _ _ _) fun i j i0 hi j0 hj => ?_
  rw [set_at sq.len sq.row ha.1 ha.2 hc.1 hc.2 v i0 hi j0 hj, nextT_at ⟨i0, hi⟩ ⟨j0, hj⟩, nextT_at ⟨i0, hi⟩ ⟨j0, hj⟩]
  unfold nextG
  by_cases e : i = a ∧ j = c
  · rw [if_pos e, if_neg (by omega), if_pos e, e.1, e.2]; exact hv
  · rw [if_neg e, if_neg e, if_neg e]
theorem nextT_same {a c k : Int} (h0 : 0 ≤ k) (hv : cellK m b a c k = cellK m b a c (k + 1)) : nextT m b n a c k = nextT m b n a c (k + 1) := by
  refine nextT_ext fun i j hi hj => ?_
  unfold nextG
  by_cases e : i = a ∧ j = c
  · rw [if_neg (by omega), if_pos e, if_neg (by omega), if_pos e, e.1, e.2]; exact hv
  · rw [if_neg e, if_neg e]
end
theorem lens_sq {n : Nat} {m : List (List Int)} (h : Sq n m) (hn : n ≤ 40) : lensOk m := by
  refine ⟨by rw [h.len]; omega, fun r hr => ?_⟩
  obtain ⟨i, hi, rfl⟩ := List.getElem_of_mem hr
  have h1 := h.row i (by omega) (by have := h.len; omega)
  rw [Int.toNat_natCast, List.getD_eq_getElem?_getD, List.getElem?_eq_getElem hi, Option.getD_some] at h1
  unfold lenOk; omega
theorem s_rstar (m : List (List Int)) : SoundC Try.prog G0 15 [.dat M m] [] ⟨True, .tup [.dat M (rstarS m), .dat I (rstarE m)], []⟩ := by
  refine sound_of_ev (c := Sv.mkc K10) KS10 KI0s hm (vc_rstar m ⟨rfl, fun _ => ?_⟩)
  simp only [cnd_or, cnd_and, D.and, D.or, D.not, Bool.true_and, Bool.and_true, Bool.false_or, Bool.or_false, eq_self, true_and, and_true, imp_self, implies_true, Bool.not_eq_true', Bool.or_eq_true, Bool.or_eq_false_iff, Bool.not_eq_false', Bool.and_eq_true, Bool.and_eq_false_imp, Bool.not_not, forall_const, exists_eq_right, exists_eq_right', exists_eq_left, exists_eq_left', Int.toNat_natCast, Nat.zero_add, Nat.mul_one, Int.ofNat_eq_natCast, D.nil, D.eq, D.ne, D.lt, D.gt, D.le, D.ge, D.beq, D.ilen, D.slen, D.ile, D.ilt, D.ine, D.nle, D.nlt, D.sub, D.add, D.mul, D.neg, D.nat, D.ofN, D.len, D.nadd, D.nmul, D.get, D.mn, D.mx, D.set, D.app, D.tail, D.part, D.seg, D.rep, D.at2, decide_eq_true_eq, decide_eq_false_iff_not, beq_iff_eq, bne_iff_ne, beq_eq_false_iff_ne, bne_eq_false_iff_eq, D.wrap, D.allNil]
  refine ⟨fun hv => by simp [rstarS, rstarE, rstarF, hv], fun hv => ?_⟩
  have hm := valid_bd hv
  have hl := hm.le
  have hA := fun r (hr : r ≤ 90) => best_all (R := 90) hm (by omega) (by omega) r hr
  have sm : small m.length := by show (m.length : Int) ≤ 1000000; omega
  have e1 : (oneF (m.length : Int)).length = m.length := (buildF_sq one1 m.length).len
  refine ⟨sm, ⟨0, ⟨Int.le_refl _, by omega, hv, fun j hj => by omega⟩, rfl, rfl⟩, fun x hx => ⟨fun hle => ⟨sm, ⟨0, upto_zero _, rfl, nextT_zero⟩, fun a ha => ⟨fun hlt => ⟨⟨0, upto_zero _, rfl, rfl⟩, fun c hc => ⟨fun hlt2 => ⟨⟨0, upto_zero _, rfl, rfl⟩, fun k hk => ⟨fun hlt3 => ?_, fun hge => ?_⟩⟩, fun hge => ?_⟩⟩, fun hge => ?_⟩⟩, fun hgt => ?_⟩⟩
  · have x0 := hx.1
    have hb := hA x.toNat (by omega)
    have eb : bestN m x.toNat = bestK m x := rfl
    rw [eb] at hb
    have ia : In m.length a := ⟨ha.1, hlt⟩
    have ic : In m.length c := ⟨hc.1, hlt2⟩
    have ik : In m.length k := ⟨hk.1, hlt3⟩
    obtain ⟨q1, q2⟩ := at_bnd hm.sq ia.1 ia.2
    obtain ⟨q3, q4⟩ := at_bnd hb.sq ik.1 ik.2
    have sn := nextT_sq (m := m) (b := bestK m x) (n := m.length) a c k
    obtain ⟨q5, q6⟩ := at_bnd sn ia.1 ia.2
    have q7 := sn.len
    have k0 := ik.1
    have eg : ((nextT m (bestK m x) (m.length : Int) a c k).getD a.toNat []).getD c.toNat 0 = cellK m (bestK m x) a c k := by
      have := nextT_at (m := m) (b := bestK m x) (n := m.length) (a := a) (c := c) (k := k) ia ic
      unfold at2 at this
      rw [this]; unfold nextG
      rw [if_neg (by omega), if_pos ⟨rfl, rfl⟩]
    have es := cellK_succ (m := m) (b := bestK m x) (i := a) (j := c) k0
    have mu : (m.length - (k + 1)).toNat < (m.length - k).toNat := by omega
    have uk : upto (k + 1) (m.length : Int) := ⟨by omega, .inl (by omega)⟩
    refine ⟨ia.1, ia.2, ik.1, by omega, fun _ => ik.1, fun _ => by omega, fun _ => ic.1, fun _ => by have := ic.2; omega, fun hif => ?_, fun hif => ?_⟩
    · have hif' : infF (at2 m a k) = false ∧ at2 (bestK m x) k c > -1099511627776 := by
        have h1 : infF ((m.getD a.toNat []).getD k.toNat 0) = false ∧ ((bestK m x).getD k.toNat []).getD c.toNat 0 > -1099511627776 := by simpa using hif
        exact h1
      have hf2 : infF (at2 (bestK m x) k c) = false := by
        rcases hb.cl k c ik ic with e | e
        · have := hif'.2; omega
        · exact e
      have hs := hb.sum (L := 1000000000) hm (by omega) (by omega) ia ik ic hif'.1 hf2
      have hin : inR .i64 ((m.getD a.toNat []).getD k.toNat 0 + ((bestK m x).getD k.toNat []).getD c.toNat 0) := in_small ⟨by have := hs.1; unfold at2 at this; omega, by have := hs.2; unfold at2 at this; omega⟩
      have hset : (nextT m (bestK m x) (m.length : Int) a c k).set a.toNat (((nextT m (bestK m x) (m.length : Int) a c k).getD a.toNat []).set c.toNat (max (((nextT m (bestK m x) (m.length : Int) a c k).getD a.toNat []).getD c.toNat 0) ((m.getD a.toNat []).getD k.toNat 0 + ((bestK m x).getD k.toNat []).getD c.toNat 0))) = nextT m (bestK m x) (m.length : Int) a c (k + 1) := by
        refine nextT_set ia ic k0 ?_
        rw [eg, es]
        unfold stp
        rw [if_pos hif']; rfl
      simp only [q7, e1]
      have c1 := ic.2
      exact ⟨trivial, ia.1, ia.2, trivial, trivial, ia.1, ia.2, trivial, trivial, ic.1, by omega, trivial, ia.1, ia.2, ik.1, by omega, ik.1, by omega, ic.1, by omega, hin, trivial, ic.1, by omega, trivial, in_small (by omega), k + 1, uk, ⟨rfl, hset⟩, mu⟩
    · have hif' : ¬ (infF (at2 m a k) = false ∧ at2 (bestK m x) k c > -1099511627776) := by
        intro h
        have h1 : infF ((m.getD a.toNat []).getD k.toNat 0) = false ∧ ((bestK m x).getD k.toNat []).getD c.toNat 0 > -1099511627776 := h
        exact hif h1.1 h1.2
      exact ⟨in_small (by omega), k + 1, uk, ⟨rfl, nextT_same k0 (by rw [es]; unfold stp; rw [if_neg hif'])⟩, mu⟩
  · have := hc.1
    exact ⟨in_small (by omega), c + 1, ⟨by omega, .inl (by omega)⟩, ⟨rfl, nextT_col hk hge⟩, by omega⟩
  · have := ha.1
    exact ⟨in_small (by omega), a + 1, ⟨by omega, .inl (by omega)⟩, ⟨rfl, nextT_row hc hge⟩, by omega⟩
  · have sn := nextT_sq (m := m) (b := bestK m x) (n := m.length) a 0 0
    have q7 := sn.len
    have x0 := hx.1
    have en : nextT m (bestK m x) (m.length : Int) a 0 0 = bestN m (x.toNat + 1) := nextT_end ha hge
    refine ⟨by rw [q7, e1], by rw [q7, e1], lens_sq sn hl, fun hs => ?_, fun hs => ?_⟩
    · have hs : nextT m (bestK m x) (m.length : Int) a 0 0 = bestK m x := of_decide_eq_true hs
      rw [en] at hs
      have hf : (List.range (m.length + 1)).find? (fun r => decide (bestN m (r + 1) = bestN m r)) = some x.toNat := by
        rw [List.find?_range_eq_some]
        refine ⟨decide_eq_true hs, List.mem_range.2 (by omega), fun j hj => ?_⟩
        have := hx.2.2.2 j (by omega)
        simpa using this
      unfold rstarS rstarE rstarF
      rw [if_pos hv, hf]
      exact ⟨rfl, rfl⟩
    · have hs : ¬ nextT m (bestK m x) (m.length : Int) a 0 0 = bestK m x := of_decide_eq_false hs
      rw [en] at hs
      refine ⟨in_small (by omega), x + 1, ⟨by omega, by omega, hv, fun j hj => ?_⟩, ⟨?_, rfl⟩, by omega⟩
      · by_cases e : (j : Int) < x
        · exact hx.2.2.2 j e
        · have : j = x.toNat := by omega
          rw [this]; exact hs
      · rw [en]; unfold bestK
        rw [show (x + 1).toNat = x.toNat + 1 by omega]
  · have ex : x = m.length + 1 := by have := hx.2.1; omega
    have hf : (List.range (m.length + 1)).find? (fun r => decide (bestN m (r + 1) = bestN m r)) = none := by
      rw [List.find?_eq_none]
      intro j hj
      have := hx.2.2.2 j (by have := List.mem_range.1 hj; omega)
      simpa using this
    unfold rstarS rstarE rstarF
    rw [if_pos hv, hf]
    exact ⟨rfl, rfl⟩
end Go.Eng.Mp
