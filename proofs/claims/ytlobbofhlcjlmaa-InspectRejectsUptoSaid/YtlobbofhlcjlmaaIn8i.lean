/- PeIn8i -/
import Derived.Test.YtlobbofhlcjlmaaZ22
import Derived.Test.YtlobbofhlcjlmaaInLi
set_option linter.unusedSimpArgs false
set_option linter.unusedVariables false
set_option maxRecDepth 100000
namespace Go.Eng.In
open Go.Proofs
abbrev U16 : Ty := .int .u16
abbrev U8 : Ty := .int .u8
noncomputable def u16P (x : Int) : Prop := 0 ≤ x ∧ x ≤ 65535
noncomputable def u8P (x : Int) : Prop := 0 ≤ x ∧ x ≤ 255
noncomputable def rejP (l : List Int) (a b : Int) : Prop := l.length ≤ 1048576 ∧ u16P a ∧ u16P b
noncomputable def offX (o : Off) : Off := (⟨#[88]⟩, 7, o.2.2.1, 0, o.2.2.2.2.1, o.2.2.2.2.2.1, [⟨#[63]⟩])
noncomputable def linX (l : Line) : Line := (⟨#[]⟩, l.2.1, l.2.2.1, l.2.2.2.1, l.2.2.2.2.1, -1)
noncomputable def claX (k : Cla) : Cla := (⟨#[]⟩, k.2.1, k.2.2)
noncomputable def netX (n : Net) : Net := (n.1, [], [], n.2.2.2.1.map offX, n.2.2.2.2.1.map linX, n.2.2.2.2.2.map claX)
noncomputable def offXs (fs : List Off) (k : Int) : List Off := (fs.take k.toNat).map offX
noncomputable def linXs (ls : List Line) (k : Int) : List Line := (ls.take k.toNat).map linX
noncomputable def claXs (ks : List Cla) (k : Int) : List Cla := (ks.take k.toNat).map claX
noncomputable def upL (k n : Int) : Prop := 0 ≤ k ∧ k ≤ n
noncomputable def rejA : Ann := ⟨fun _ _ => none, fun id s => match id with
  | 13 => some (frz [0] { s with tm := topAll ((List.range 47).map (· + 15)) s.tm })
  | _ => none, fun _ _ => none⟩
set_option maxRecDepth 100000 in
theorem vc_rej (a b : Int) (l : List Int) (cs : List Cal) (ns os : List ByteArray) (fs : List Off) (ls : List Line) (ks : List Cla) (hvc :
 let c1 := D.nadd (0) (D.len l);
 let c2 := D.app (D.nil Int) l;
 let c3 := D.len c2;
 let c4 := (cs, ns, os, fs, ls, ks);
 let c5 := D.not (fewAll c4 c2);
 let c6 := D.not c5;
 let c7 := sealG c2;
 let c8 := D.cnd c5 true (D.not (sealedF c2 c7));
 let c9 := D.add (D.ilen l) (1 : Int);
 let c10 := D.rem a c9;
 let c11 := D.eq c10 (D.ilen l);
 let c12 := D.eq c7 b;
 let c13 := D.cnd true (D.eq (openC (c2, b)) (180 : Int)) false;
 let c14 := D.nat c10;
 let c15 := D.eq (D.get l c14 (0 : Int)) b;
 let c16 := D.set c2 c14 b;
 let c17 := D.cnd true (D.eq (openC (c16, c7)) (180 : Int)) false; true = true ∧ (rejP l a b → True ∧ D.len (D.nil Int) = 0 ∧ D.nle (D.nmul c1 (8))
  (140737488355328) ∧ D.nle c1 (9223372036854775807) ∧ (lenIs c2 c1 ∧ limS c2) ∧ 1 = 1 ∧ 0 = 0 ∧ c3 = c1 ∧ 1 = 1 ∧ 0 = 0 ∧ True ∧ c3 = c1 ∧ (c6 = true → 1 = 1) ∧
  (c6 = true → 0 = 0) ∧ (c6 = true → c6 = true → c6 = true) ∧ (c6 = true → limI c2) ∧ (c6 = true → c3 = c1) ∧ (c6 = true → c6 = true → c6 = true) ∧ (D.and true
  c6 = true → c6 = true) ∧ (c8 = true → true = true ∧ True) ∧ (c8 = false → inR IntKind.i64 a ∧ inR IntKind.i64 c9 ∧ D.ine c9 (0 : Int) ∧ (c11 = true → 1 = 1 ∧ 1
  = 1 ∧ 0 = 0 ∧ inR IntKind.i64 b ∧ (c12 = true → true = true ∧ True) ∧ (c12 = false → inR IntKind.i64 b ∧ 1 = 1 ∧ 1 = 1 ∧ 0 = 0 ∧ cs = cs ∧ ns = ns ∧ os = os ∧
  fs = fs ∧ ls = ls ∧ ks = ks ∧ l = l ∧ a = a ∧ b = b ∧ c4 = c4 ∧ false = false ∧ true = true ∧ 1 = 1 ∧ 0 = 0 ∧ 0 = 0 ∧ c10 = c10 ∧ true = true ∧ c3 = c1 ∧ c2 =
  c2 ∧ b = b ∧ 1 = 1 ∧ 0 = 0 ∧ limI c2 ∧ 1 = 1 ∧ 0 = 0 ∧ (true = true → true = true → true = true) ∧ (D.and true true = true → true = true) ∧ (c13 = true → 1 =
  1) ∧ (c13 = true → 0 = 0) ∧ (c13 = true → c13 = true → c13 = true) ∧ (c13 = true → c13 = true → c13 = true) ∧ (c13 = true → limI c2 ∧ netP c4) ∧ (c13 = true →
  c13 = true → c13 = true) ∧ (D.and true c13 = true → c13 = true) ∧ D.cnd c13 (D.eq (checkF c4 c2 b) (180 : Int)) false = true ∧ True)) ∧ (c11 = false → D.ile (0
  : Int) c10 ∧ D.ilt c10 (D.ilen l) ∧ inR IntKind.i64 b ∧ (c15 = true → true = true ∧ True) ∧ (c15 = false → 1 = 1 ∧ 1 = 1 ∧ 0 = 0 ∧ inR IntKind.i64 b ∧ c3 = c1
  ∧ D.ile (0 : Int) c10 ∧ D.ilt c10 (D.ofN c3) ∧ c3 = c1 ∧ cs = cs ∧ ns = ns ∧ os = os ∧ fs = fs ∧ ls = ls ∧ ks = ks ∧ l = l ∧ a = a ∧ b = b ∧ c4 = c4 ∧ false =
  false ∧ true = true ∧ 1 = 1 ∧ 0 = 0 ∧ 0 = 0 ∧ c10 = c10 ∧ true = true ∧ D.len c16 = c1 ∧ c16 = c16 ∧ c7 = c7 ∧ 1 = 1 ∧ 0 = 0 ∧ limI c16 ∧ 1 = 1 ∧ 0 = 0 ∧ (true
  = true → true = true → true = true) ∧ (D.and true true = true → true = true) ∧ (c17 = true → 1 = 1) ∧ (c17 = true → 0 = 0) ∧ (c17 = true → c17 = true → c17 =
  true) ∧ (c17 = true → c17 = true → c17 = true) ∧ (c17 = true → limI c16 ∧ netP c4) ∧ (c17 = true → c17 = true → c17 = true) ∧ (D.and true c17 = true → c17 =
  true) ∧ D.cnd c17 (D.eq (checkF c4 c16 c7) (180 : Int)) false = true ∧ True))))) :
    evF { mkc KH with mb := fun t => t == 15 } rejA 3 [.agg [.dat (.sl C) cs, .dat (.sl S) ns, .dat (.sl S) os, .dat (.sl Of) fs, .dat (.sl Ln) ls, .dat (.sl Kl) ks], .dat R l, .dat U16 a, .dat U16 b] [] ⟨rejP l a b, .dat .bool true, []⟩ := @of_eq _ _ (by kernel_rfl) hvc

set_option maxRecDepth 100000 in
theorem vc_num (a : Int) (l : List Int) (cs : List Cal) (ns os : List ByteArray) (fs : List Off) (ls : List Line) (ks : List Cla) (hvc :
 let c1 := (cs, ns, os, fs, ls, ks);
 let c2 := D.not (fewAll c1 l);
 let c3 := D.not c2;
 let c4 := D.cnd c2 true (D.ne (checkF c1 l (sealG l)) (0 : Int));
 let c5 := D.eq (D.ilen l) (0 : Int);
 let c6 := D.nadd (0) (D.len l);
 let c7 := D.app (D.nil Int) l;
 let c8 := [D.rem a (65520 : Int)];
 let c9 := D.nadd c6 (D.len c8);
 let c10 := D.app c7 c8;
 let c11 := D.cnd true (D.eq (checkF c1 c10 (sealG c10)) (190 : Int)) false;
 let c12 := D.sub (D.ilen l) (1 : Int);
 let c13 := D.part l (0 : Int) c12; true = true ∧ (limS l ∧ u16P a → True ∧ limS l ∧ 1 = 1 ∧ 0 = 0 ∧ 1 = 1 ∧ 0 = 0 ∧ True ∧ (c3 = true → 1 = 1) ∧ (c3 = true → 0
  = 0) ∧ (c3 = true → c3 = true → c3 = true) ∧ (c3 = true → c3 = true → c3 = true) ∧ (c3 = true → limI l ∧ netP c1) ∧ (c3 = true → c3 = true → c3 = true) ∧
  (D.and true c3 = true → c3 = true) ∧ (c4 = true → true = true ∧ True) ∧ (c4 = false → (c5 = true → false = true ∧ True) ∧ (c5 = false → D.len (D.nil Int) = 0 ∧
  D.nle (D.nmul c6 (8)) (140737488355328) ∧ D.nle c6 (9223372036854775807) ∧ inR IntKind.i64 a ∧ D.ine (65520 : Int) (0 : Int) ∧ D.len c7 = c6 ∧ D.nle (D.nmul c9
  (8)) (140737488355328) ∧ D.nle c9 (9223372036854775807) ∧ (lenIs c10 c9 ∧ limS c10) ∧ 1 = 1 ∧ 0 = 0 ∧ D.len c10 = c9 ∧ (true = true → 1 = 1) ∧ (true = true → 0
  = 0) ∧ (true = true → true = true → true = true) ∧ (true = true → true = true → true = true) ∧ (true = true → limI c10 ∧ netP c1) ∧ (true = true → D.len c10 =
  c9) ∧ (true = true → true = true → true = true) ∧ (D.and true true = true → true = true) ∧ (c11 = true → c11 = true → c11 = true) ∧ (c11 = true → c11 = true →
  c11 = true) ∧ (c11 = true → inR IntKind.i64 c12) ∧ (c11 = true → c11 = true → c11 = true) ∧ (c11 = true → c11 = true → c11 = true) ∧ (c11 = true → D.ile (0 :
  Int) (0 : Int)) ∧ (c11 = true → D.ile (0 : Int) c12) ∧ (c11 = true → D.ile c12 (D.ilen l)) ∧ (c11 = true → c11 = true → c11 = true) ∧ (c11 = true → limS c13) ∧
  (c11 = true → c11 = true → c11 = true) ∧ (c11 = true → c11 = true → c11 = true) ∧ (c11 = true → limI c13 ∧ netP c1) ∧ (c11 = true → c11 = true → c11 = true) ∧
  (D.and true c11 = true → c11 = true) ∧ D.cnd c11 (D.eq (checkF c1 c13 (sealG c13)) (190 : Int)) false = true ∧ True)))) :
    evF { mkc KH with mb := fun t => t == 27 } noAnn 4 [.agg [.dat (.sl C) cs, .dat (.sl S) ns, .dat (.sl S) os, .dat (.sl Of) fs, .dat (.sl Ln) ls, .dat (.sl Kl) ks], .dat R l, .dat U16 a] [] ⟨limS l ∧ u16P a, .dat .bool true, []⟩ := @of_eq _ _ (by kernel_rfl) hvc

set_option maxRecDepth 100000 in
theorem vc_weak (a b c d : Int) (l : List Int) (cs : List Cal) (ns os : List ByteArray) (fs : List Off) (ls : List Line) (ks : List Cla) (hvc :
 let c1 := (cs, ns, os, fs, ls, ks);
 let c2 := D.not (fewAll c1 l);
 let c3 := D.not c2;
 let c4 := D.cnd c2 true (D.ne (checkF c1 l (sealG l)) (0 : Int));
 let c5 := D.ilen fs;
 let c6 := D.eq c5 (0 : Int);
 let c7 := D.not c6;
 let c8 := D.ilen ks;
 let c9 := D.cnd c6 true (D.eq c8 (0 : Int));
 let c10 := D.mul c5 c5;
 let c11 := D.add (4 : Int) c10;
 let c12 := D.mul (D.rem a c8) c5;
 let c13 := D.mul c12 c5;
 let c14 := D.add c11 c13;
 let c15 := D.rem b c5;
 let c16 := D.mul c15 c5;
 let c17 := D.add c14 c16;
 let c18 := D.mul c8 c5;
 let c19 := D.mul c18 c5;
 let c20 := D.add c11 c19;
 let c21 := D.lt (D.ilen l) c20;
 let c22 := D.nadd (0) (D.len l);
 let c23 := D.add c17 (D.rem c c5);
 let c24 := D.nat c23;
 let c25 := D.get l c24 (0 : Int);
 let c26 := D.gt c25 (0 : Int);
 let c27 := D.add c25 d;
 let c28 := D.cnd c26 (D.le c27 (65519 : Int)) false;
 let c29 := D.app (D.nil Int) l;
 let c30 := D.len c29;
 let c31 := D.ofN c30;
 let c32 := D.add c17 c15;
 let c33 := D.set c29 c24 c27;
 let c34 := D.cnd true (D.eq (checkF c1 c33 (sealG c33)) (0 : Int)) false;
 let c35 := D.set c29 (D.nat c32) (0 : Int);
 let c36 := D.eq (checkF c1 c35 (sealG c35)) (0 : Int);
 let c37 := D.cnd true (D.eq (checkF c1 c29 (sealG c29)) (0 : Int)) false; true = true ∧ (limS l ∧ (u8P a ∧ u8P b) ∧ u8P c ∧ u8P d → True ∧ limS l ∧ 1 = 1 ∧ 0 =
  0 ∧ 1 = 1 ∧ 0 = 0 ∧ True ∧ (c3 = true → 1 = 1) ∧ (c3 = true → 0 = 0) ∧ (c3 = true → c3 = true → c3 = true) ∧ (c3 = true → c3 = true → c3 = true) ∧ (c3 = true →
  limI l ∧ netP c1) ∧ (c3 = true → c3 = true → c3 = true) ∧ (D.and true c3 = true → c3 = true) ∧ (c4 = true → true = true ∧ True) ∧ (c4 = false → (c7 = true → c7
  = true → c7 = true) ∧ (c7 = true → c7 = true → c7 = true) ∧ (c7 = true → c7 = true → c7 = true) ∧ (D.and true c7 = true → c7 = true) ∧ (c9 = true → true = true
  ∧ True) ∧ (c9 = false → inR IntKind.i64 a ∧ D.ine c8 (0 : Int) ∧ inR IntKind.i64 b ∧ D.ine c5 (0 : Int) ∧ inR IntKind.i64 c ∧ D.ine c5 (0 : Int) ∧ inR
  IntKind.i64 c10 ∧ inR IntKind.i64 c11 ∧ inR IntKind.i64 c12 ∧ inR IntKind.i64 c13 ∧ inR IntKind.i64 c14 ∧ inR IntKind.i64 c16 ∧ inR IntKind.i64 c17 ∧ inR
  IntKind.i64 c10 ∧ inR IntKind.i64 c11 ∧ inR IntKind.i64 c18 ∧ inR IntKind.i64 c19 ∧ inR IntKind.i64 c20 ∧ (c21 = true → false = true ∧ True) ∧ (c21 = false →
  D.len (D.nil Int) = 0 ∧ D.nle (D.nmul c22 (8)) (140737488355328) ∧ D.nle c22 (9223372036854775807) ∧ inR IntKind.i64 c23 ∧ D.ile (0 : Int) c23 ∧ D.ilt c23
  (D.ilen l) ∧ (c26 = true → c26 = true → c26 = true) ∧ (c26 = true → c26 = true → c26 = true) ∧ (c26 = true → inR IntKind.i64 c23) ∧ (c26 = true → c26 = true →
  c26 = true) ∧ (c26 = true → c26 = true → c26 = true) ∧ (c26 = true → D.ile (0 : Int) c23) ∧ (c26 = true → D.ilt c23 (D.ilen l)) ∧ (c26 = true → c26 = true →
  c26 = true) ∧ (c26 = true → c26 = true → c26 = true) ∧ (c26 = true → inR IntKind.i64 d) ∧ (c26 = true → c26 = true → c26 = true) ∧ (c26 = true → c26 = true →
  c26 = true) ∧ (c26 = true → inR IntKind.i64 c27) ∧ (c26 = true → c26 = true → c26 = true) ∧ (D.and true c26 = true → c26 = true) ∧ (c28 = true → inR
  IntKind.i64 c23 ∧ inR IntKind.i64 c23 ∧ D.ile (0 : Int) c23 ∧ D.ilt c23 (D.ilen l) ∧ inR IntKind.i64 d ∧ inR IntKind.i64 c27 ∧ c30 = c22 ∧ D.ile (0 : Int) c23
  ∧ D.ilt c23 c31 ∧ c30 = c22 ∧ D.len (D.nil Int) = 0 ∧ D.nle (D.nmul c22 (8)) (140737488355328) ∧ D.nle c22 (9223372036854775807) ∧ inR IntKind.i64 c32 ∧ c30 =
  c22 ∧ D.ile (0 : Int) c32 ∧ D.ilt c32 c31 ∧ c30 = c22 ∧ (true = true → true = true → true = true) ∧ (true = true → lenIs c33 c22 ∧ limS c33) ∧ (true = true →
  true = true → true = true) ∧ (true = true → true = true → true = true) ∧ (true = true → limI c33 ∧ netP c1) ∧ (true = true → D.len c33 = c22) ∧ (true = true →
  true = true → true = true) ∧ (D.and true true = true → true = true) ∧ (c34 = true → c34 = true → c34 = true) ∧ (c34 = true → lenIs c35 c22 ∧ limS c35) ∧ (c34 =
  true → c34 = true → c34 = true) ∧ (c34 = true → c34 = true → c34 = true) ∧ (c34 = true → limI c35 ∧ netP c1) ∧ (c34 = true → D.len c35 = c22) ∧ (c34 = true →
  c34 = true → c34 = true) ∧ (D.and true c34 = true → c34 = true) ∧ D.cnd c34 c36 false = true ∧ True) ∧ (c28 = false → D.len (D.nil Int) = 0 ∧ D.nle (D.nmul c22
  (8)) (140737488355328) ∧ D.nle c22 (9223372036854775807) ∧ inR IntKind.i64 c32 ∧ c30 = c22 ∧ D.ile (0 : Int) c32 ∧ D.ilt c32 c31 ∧ c30 = c22 ∧ (true = true →
  true = true → true = true) ∧ (true = true → lenIs c29 c22 ∧ limS c29) ∧ (true = true → true = true → true = true) ∧ (true = true → true = true → true = true) ∧
  (true = true → limI c29 ∧ netP c1) ∧ (true = true → c30 = c22) ∧ (true = true → true = true → true = true) ∧ (D.and true true = true → true = true) ∧ (c37 =
  true → c37 = true → c37 = true) ∧ (c37 = true → lenIs c35 c22 ∧ limS c35) ∧ (c37 = true → c37 = true → c37 = true) ∧ (c37 = true → c37 = true → c37 = true) ∧
  (c37 = true → limI c35 ∧ netP c1) ∧ (c37 = true → D.len c35 = c22) ∧ (c37 = true → c37 = true → c37 = true) ∧ (D.and true c37 = true → c37 = true) ∧ D.cnd c37
  c36 false = true ∧ True)))))) :
    evF { mkc KH with mb := fun t => t == 91 || t == 127 } noAnn 5 [.agg [.dat (.sl C) cs, .dat (.sl S) ns, .dat (.sl S) os, .dat (.sl Of) fs, .dat (.sl Ln) ls, .dat (.sl Kl) ks], .dat R l, .dat U8 a, .dat U8 b, .dat U8 c, .dat U8 d] [] ⟨limS l ∧ (u8P a ∧ u8P b) ∧ u8P c ∧ u8P d, .dat .bool true, []⟩ := @of_eq _ _ (by kernel_rfl) hvc

theorem lr_rej (a b : Int) (l : List Int) (cs : List Cal) (ns os : List ByteArray) (fs : List Off) (ls : List Line) (ks : List Cla) : SoundC Try.prog G0 3 [.agg [.dat (.sl C) cs, .dat (.sl S) ns, .dat (.sl S) os, .dat (.sl Of) fs, .dat (.sl Ln) ls, .dat (.sl Kl) ks], .dat R l, .dat U16 a, .dat U16 b] [] ⟨rejP l a b, .dat .bool true, []⟩ := by
  refine sound_of_ev (c := { mkc KH with mb := fun t => t == 15 }) KHs KI0s hm (vc_rej a b l cs ns os fs ls ks ⟨rfl, fun hp => ?_⟩)
  simp only [cnd_or, cnd_and, D.and, D.or, D.not, Bool.true_and, Bool.and_true, Bool.false_or, Bool.or_false, eq_self, true_and, and_true, imp_self, implies_true, Bool.not_eq_true', Bool.or_eq_true, Bool.or_eq_false_iff, Bool.not_eq_false', Bool.and_eq_true, Bool.and_eq_false_imp, Bool.not_not, forall_const, exists_eq_right, exists_eq_right', exists_eq_left, exists_eq_left', Int.toNat_natCast, Nat.zero_add, Nat.mul_one, Int.ofNat_eq_natCast, D.nil, D.eq, D.ne, D.lt, D.gt, D.le, D.ge, D.beq, D.ilen, D.slen, D.ile, D.ilt, D.ine, D.nle, D.nlt, D.sub, D.add, D.mul, D.neg, D.nat, D.ofN, D.len, D.nadd, D.nmul, D.get, D.mn, D.mx, D.set, D.app, D.tail, D.part, D.seg, D.rep, D.at2, decide_eq_true_eq, decide_eq_false_iff_not, beq_iff_eq, bne_iff_ne, beq_eq_false_iff_ne, bne_eq_false_iff_eq, D.wrap, D.allNil]
  obtain ⟨hl, ⟨a0, a1⟩, b0, b1⟩ := hp
  simp only [List.nil_append]
  have ll : limI l := limI_of (by omega)
  have sl : limS l := limS_of (by omega)
  have hr : D.rem a (↑l.length + 1) = a.tmod (l.length + 1) := rfl
  have hr2 : 0 ≤ a.tmod (l.length + 1) ∧ a.tmod (l.length + 1) < l.length + 1 := by
    rw [Int.tmod_eq_emod_of_nonneg a0]
    exact ⟨Int.emod_nonneg _ (by omega), Int.emod_lt_of_pos _ (by omega)⟩
  rw [hr]
  generalize a.tmod (l.length + 1) = k at hr2
  refine ⟨rfl, by omega, by omega, ⟨rfl, sl⟩, trivial, trivial, fun _ => ll, fun _ => trivial, fun ⟨h1, h2⟩ => ?_⟩
  obtain ⟨_, hn, _⟩ := fewAll_bnd h1
  refine ⟨in_big (by omega), in_big (by omega), by omega, fun hk => ⟨in_big (by omega), fun hb => ?_⟩, fun hk => ⟨hr2.1, by omega, in_big (by omega), fun hb => ?_⟩⟩
  · obtain ⟨e1, e2⟩ := rej_seal (n := (cs, ns, os, fs, ls, ks)) h2 hb
    exact ⟨in_big (by omega), trivial, ll, fun _ => ⟨ll, hn⟩, e1, e2⟩
  · obtain ⟨e1, e2⟩ := rej_num (n := (cs, ns, os, fs, ls, ks)) (k := k.toNat) h2 (by omega) hb
    have l2 : (l.set k.toNat b).length = l.length := List.length_set
    have l3 : limI (l.set k.toNat b) := limI_of (by omega)
    exact ⟨in_big (by omega), trivial, hr2.1, by omega, trivial, l2, l3, fun _ => ⟨l3, hn⟩, e1, e2⟩
theorem lr_num (a : Int) (l : List Int) (cs : List Cal) (ns os : List ByteArray) (fs : List Off) (ls : List Line) (ks : List Cla) : SoundC Try.prog G0 4 [.agg [.dat (.sl C) cs, .dat (.sl S) ns, .dat (.sl S) os, .dat (.sl Of) fs, .dat (.sl Ln) ls, .dat (.sl Kl) ks], .dat R l, .dat U16 a] [] ⟨limS l ∧ u16P a, .dat .bool true, []⟩ := by
  refine sound_of_ev (c := { mkc KH with mb := fun t => t == 27 }) KHs KI0s hm (vc_num a l cs ns os fs ls ks ⟨rfl, fun hp => ?_⟩)
  simp only [cnd_or, cnd_and, D.and, D.or, D.not, Bool.true_and, Bool.and_true, Bool.false_or, Bool.or_false, eq_self, true_and, and_true, imp_self, implies_true, Bool.not_eq_true', Bool.or_eq_true, Bool.or_eq_false_iff, Bool.not_eq_false', Bool.and_eq_true, Bool.and_eq_false_imp, Bool.not_not, forall_const, exists_eq_right, exists_eq_right', exists_eq_left, exists_eq_left', Int.toNat_natCast, Nat.zero_add, Nat.mul_one, Int.ofNat_eq_natCast, D.nil, D.eq, D.ne, D.lt, D.gt, D.le, D.ge, D.beq, D.ilen, D.slen, D.ile, D.ilt, D.ine, D.nle, D.nlt, D.sub, D.add, D.mul, D.neg, D.nat, D.ofN, D.len, D.nadd, D.nmul, D.get, D.mn, D.mx, D.set, D.app, D.tail, D.part, D.seg, D.rep, D.at2, decide_eq_true_eq, decide_eq_false_iff_not, beq_iff_eq, bne_iff_ne, beq_eq_false_iff_ne, bne_eq_false_iff_eq, D.wrap, D.allNil]
  obtain ⟨hl, a0, a1⟩ := hp
  simp only [List.nil_append]
  have hr : D.rem a 65520 = a.tmod 65520 := rfl
  have hr2 : 0 ≤ a.tmod 65520 ∧ a.tmod 65520 < 65520 := by
    rw [Int.tmod_eq_emod_of_nonneg a0]
    exact ⟨Int.emod_nonneg _ (by omega), Int.emod_lt_of_pos _ (by omega)⟩
  rw [hr]
  generalize a.tmod 65520 = x at hr2
  refine ⟨hl, fun h => ⟨limI_of (by have := (fewAll_bnd h).1; omega), (fewAll_bnd h).2.1⟩, fun ⟨h1, h2⟩ => ?_⟩
  obtain ⟨l1, hn, _⟩ := fewAll_bnd h1
  have hI : ∀ xs : List Int, xs.length ≤ l.length + 1 → limI xs := fun xs h => limI_of (by omega)
  have hS : ∀ xs : List Int, xs.length ≤ l.length + 1 → limS xs := fun xs h => limS_of (by omega)
  have ac := acc_iff.1 h2
  have h4 := acc_len ac
  have e1 := num_more (x := x) (hI l (by omega)) ac hr2.1 (by omega)
  have e2 := num_less (hI l (by omega)) ac
  have et : (((l.length : Int) - 1).toNat) = l.length - 1 := by omega
  have ed : List.drop (Int.toNat 0) (List.take (l.length - 1) l) = List.take (l.length - 1) l := rfl
  rw [et, ed]
  refine ⟨fun h => by omega, fun _ => ⟨rfl, by omega, by omega, in_big (by omega), by decide, trivial, by simp only [List.length_singleton]; omega, by simp only [List.length_singleton]; omega, ⟨by unfold lenIs; rw [List.length_append], hS _ (by simp)⟩, by rw [List.length_append], ⟨hI _ (by simp), hn⟩, by rw [List.length_append], fun _ => in_big (by omega), fun _ => Int.le_refl _, fun _ => by omega, fun _ => by omega, fun _ => hS _ (by rw [List.length_take]; omega), fun _ => ⟨hI _ (by rw [List.length_take]; omega), hn⟩, e1, e2⟩⟩
theorem lr_weak (a b c d : Int) (l : List Int) (cs : List Cal) (ns os : List ByteArray) (fs : List Off) (ls : List Line) (ks : List Cla) : SoundC Try.prog G0 5 [.agg [.dat (.sl C) cs, .dat (.sl S) ns, .dat (.sl S) os, .dat (.sl Of) fs, .dat (.sl Ln) ls, .dat (.sl Kl) ks], .dat R l, .dat U8 a, .dat U8 b, .dat U8 c, .dat U8 d] [] ⟨limS l ∧ (u8P a ∧ u8P b) ∧ u8P c ∧ u8P d, .dat .bool true, []⟩ := by
  refine sound_of_ev (c := { mkc KH with mb := fun t => t == 91 || t == 127 }) KHs KI0s hm (vc_weak a b c d l cs ns os fs ls ks ⟨rfl, fun hp => ?_⟩)
  simp only [cnd_or, cnd_and, D.and, D.or, D.not, Bool.true_and, Bool.and_true, Bool.false_or, Bool.or_false, eq_self, true_and, and_true, imp_self, implies_true, Bool.not_eq_true', Bool.or_eq_true, Bool.or_eq_false_iff, Bool.not_eq_false', Bool.and_eq_true, Bool.and_eq_false_imp, Bool.not_not, forall_const, exists_eq_right, exists_eq_right', exists_eq_left, exists_eq_left', Int.toNat_natCast, Nat.zero_add, Nat.mul_one, Int.ofNat_eq_natCast, D.nil, D.eq, D.ne, D.lt, D.gt, D.le, D.ge, D.beq, D.ilen, D.slen, D.ile, D.ilt, D.ine, D.nle, D.nlt, D.sub, D.add, D.mul, D.neg, D.nat, D.ofN, D.len, D.nadd, D.nmul, D.get, D.mn, D.mx, D.set, D.app, D.tail, D.part, D.seg, D.rep, D.at2, decide_eq_true_eq, decide_eq_false_iff_not, beq_iff_eq, bne_iff_ne, beq_eq_false_iff_ne, bne_eq_false_iff_eq, D.wrap, D.allNil]
  obtain ⟨hl, ⟨⟨a0, a1⟩, b0, b1⟩, ⟨c0, c1⟩, d0, d1⟩ := hp
  simp only [List.nil_append]
  generalize hm : (fs.length : Int) = m
  generalize hq : (ks.length : Int) = q
  generalize hK : D.rem a q = K
  generalize hO : D.rem b m = O
  generalize hD : D.rem c m = X
  generalize hA : 4 + m * m + K * m * m + O * m = A
  refine ⟨hl, fun h => ⟨limI_of (by have := (fewAll_bnd h).1; omega), (fewAll_bnd h).2.1⟩, fun ⟨h1, h2⟩ ⟨h3, h4⟩ => ?_⟩
  obtain ⟨l1, hn, m6, q8⟩ := fewAll_bnd h1
  have m6 : fs.length ≤ 6 := m6
  have q8 : ks.length ≤ 8 := q8
  have ac := acc_iff.1 h2
  have ll : limI l := limI_of (by omega)
  have hnum := acc_nums ll ac
  obtain ⟨⟨M0, M1⟩, ⟨Q0, Q1⟩, _⟩ := plan_parts hnum ac.pl
  have hpl := plan_plP hnum ac.pl ac.fit
  have lm : (planF l).2.2.1.length = (l.getD 2 0).toNat := build_len _ _
  have lq : (planF l).2.2.2.length = (l.getD 3 0).toNat := tabs_len _ _ _
  have em : l.getD 2 0 = m := by
    have : (planF l).2.2.1.length = fs.length := hpl.2.1.1
    omega
  have eq : l.getD 3 0 = q := by
    have : (planF l).2.2.2.length = ks.length := hpl.2.2.2.1
    omega
  have hKb : 0 ≤ K ∧ K < q := by
    rw [← hK]; show 0 ≤ a.tmod q ∧ a.tmod q < q
    rw [Int.tmod_eq_emod_of_nonneg a0]
    exact ⟨Int.emod_nonneg _ (by omega), Int.emod_lt_of_pos _ (by omega)⟩
  have hOb : 0 ≤ O ∧ O < m := by
    rw [← hO]; show 0 ≤ b.tmod m ∧ b.tmod m < m
    rw [Int.tmod_eq_emod_of_nonneg b0]
    exact ⟨Int.emod_nonneg _ (by omega), Int.emod_lt_of_pos _ (by omega)⟩
  have hXb : 0 ≤ X ∧ X < m := by
    rw [← hD]; show 0 ≤ c.tmod m ∧ c.tmod m < m
    rw [Int.tmod_eq_emod_of_nonneg c0]
    exact ⟨Int.emod_nonneg _ (by omega), Int.emod_lt_of_pos _ (by omega)⟩
  obtain ⟨mm0, mm1⟩ := mul2 (a := m) (b := m) (A := 6) (B := 6) (by omega) (by omega) (by omega) (by omega)
  obtain ⟨km0, km1⟩ := mul2 (a := K) (b := m) (A := 8) (B := 6) (by omega) (by omega) (by omega) (by omega)
  obtain ⟨kmm0, kmm1⟩ := mul2 (a := K * m) (b := m) (A := 48) (B := 6) (by omega) (by omega) (by omega) (by omega)
  obtain ⟨om0, om1⟩ := mul2 (a := O) (b := m) (A := 6) (B := 6) (by omega) (by omega) (by omega) (by omega)
  obtain ⟨qm0, qm1⟩ := mul2 (a := q) (b := m) (A := 8) (B := 6) (by omega) (by omega) (by omega) (by omega)
  obtain ⟨qmm0, qmm1⟩ := mul2 (a := q * m) (b := m) (A := 48) (B := 6) (by omega) (by omega) (by omega) (by omega)
  have eX : A + X = pos m K O X := by unfold pos; rw [← hA, Int.mul_assoc K m m]; omega
  have eO : A + O = pos m K O O := by unfold pos; rw [← hA, Int.mul_assoc K m m]; omega
  have hlen := (plOk_iff.1 ac.pl).2.2
  rw [em, eq] at hlen
  obtain ⟨x0, x1⟩ := pos_in (m := m) (q := q) (by omega) hKb.1 hKb.2 hOb.1 hOb.2 hXb.1 hXb.2
  obtain ⟨y0, y1⟩ := pos_in (m := m) (q := q) (by omega) hKb.1 hKb.2 hOb.1 hOb.2 hOb.1 hOb.2
  have hbnd : 0 ≤ l.getD (A + X).toNat 0 ∧ l.getD (A + X).toNat 0 ≤ 65519 := inSeal_iff.1 ac.ins _ (getD_mem (by omega))
  have hqm : q * m * m = q * (m * m) := Int.mul_assoc q m m
  have aW : l.getD (A + X).toNat 0 > 0 → l.getD (A + X).toNat 0 + d ≤ 65519 → checkF (cs, ns, os, fs, ls, ks) (l.set (A + X).toNat (l.getD (A + X).toNat 0 + d)) (sealG (l.set (A + X).toNat (l.getD (A + X).toNat 0 + d))) = 0 := fun g1 g2 => acc_iff.2 (by
    have := weaker_days (K := K) (O := O) (X := X) (d := d) ll ac (by omega) hKb.1 (by omega) hOb.1 (by omega) hXb.1 (by omega) d0
    rw [em, ← eX] at this
    exact this g1 g2)
  have aN : checkF (cs, ns, os, fs, ls, ks) (l.set (A + O).toNat 0) (sealG (l.set (A + O).toNat 0)) = 0 := acc_iff.2 (by
    have := weaker_none (K := K) (O := O) ll ac (by omega) hKb.1 (by omega) hOb.1 (by omega)
    rw [em, ← eO] at this
    exact this)
  have lW : ∀ (i : Nat) (v : Int), (l.set i v).length = l.length := fun _ _ => List.length_set
  have iW : ∀ (i : Nat) (v : Int), limI (l.set i v) := fun i v => limI_of (by rw [lW]; omega)
  have sW : ∀ (i : Nat) (v : Int), limS (l.set i v) := fun i v => limS_of (by rw [lW]; omega)
  repeat' (first | apply And.intro | intro _)
  all_goals first
    | exact hn
    | exact hn.1.1.1
    | exact hn.1.1.2
    | exact hn.1.2
    | exact hn.2
    | exact aN
    | exact h2
    | exact ll
    | exact hl
    | exact iW _ _
    | exact sW _ _
    | exact lW _ _
    | exact trivial
    | exact rfl
    | omega
    | exact in_big (by omega)
    | exact aW (by omega) (by omega)
    | trace_state
end Go.Eng.In
