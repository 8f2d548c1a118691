/- PeTr6t -/
import Derived.Test.YtgphkkpblecfgabGreatDoorY22
import Derived.Test.YtgphkkpblecfgabGreatDoorTr5t
set_option linter.unusedSimpArgs false
set_option linter.unusedVariables false
set_option maxRecDepth 100000
noncomputable section
namespace Go.Eng.Sv
open Go.Proofs
def tim20 (t : Int) : Bool := decide (0 ≤ t ∧ t ≤ 1000000)
def badC (n : Net) (o l : Int) : Bool := !cellOk n o l
def fIdx (f : Int → Bool) (row : List Int) : Int := match row.findIdx? f with
  | some i => (i : Int)
  | none => -1
def noneTo (f : Int → Bool) (row : List Int) (k : Int) : Prop := 0 ≤ k ∧ k ≤ row.length ∧ ∀ i : Nat, (i : Int) < k → f (row.getD i 0) = false
def rowFits (row : List Int) : Prop := row.length ≤ 1000000
def anyF (f : Int → Bool) (row : List Int) : Bool := row.any f
def usF (n : Net) (nx : List (List Int)) : Bool := soundF n && tabF n nx
def stopAt (time : Int) (s : Stop) : Bool := decide (s.2.2.2 = -1) || decide (time ≤ s.2.2.1)
def sIdx (time : Int) (l : List Stop) : Int := match l.findIdx? (stopAt time) with
  | some i => (i : Int)
  | none => -1
def sNone (time : Int) (l : List Stop) (k : Int) : Prop := 0 ≤ k ∧ k ≤ l.length ∧ ∀ i : Nat, (i : Int) < k → stopAt time (l.getD i (0, 0, 0, 0)) = false
def sFits (l : List Stop) : Prop := l.length ≤ 1000000
def nameEq (a b : Off) : Bool := a.1.toList == b.1.toList
def alikeO (fs gs : List Off) : Bool := decide ((fs.length : Int) = gs.length) && (List.range fs.length).all fun i => nameEq (fs.getD i (⟨#[]⟩, 0, 0, 0, 0, 0, [])) (gs.getD i (⟨#[]⟩, 0, 0, 0, 0, 0, []))
def alikeTo (fs gs : List Off) (k : Int) : Prop := 0 ≤ k ∧ k ≤ fs.length ∧ (fs.length : Int) = gs.length ∧ ∀ i : Nat, (i : Int) < k → nameEq (fs.getD i (⟨#[]⟩, 0, 0, 0, 0, 0, [])) (gs.getD i (⟨#[]⟩, 0, 0, 0, 0, 0, [])) = true
def oFits (fs : List Off) : Prop := fs.length ≤ 1000000
abbrev OF : Ty := .pair .str (.pair (.int .i64) (.pair (.int .i64) (.pair (.int .i64) (.pair (.int .i64) (.pair (.int .i64) (.sl .str))))))
theorem vc_tinside (i l : Int) (hvc :
 let c1 := D.ge i (0 : Int); true = true ∧ (True → (c1 = true → c1 = true → c1 = true) ∧ (c1 = true → c1 = true → c1 = true) ∧ (D.and true c1 = true → c1 = true)
  ∧ D.cnd c1 (D.lt i l) false = idxF i l ∧ True)) :
    evF (mkc KR5) noAnn 53 [.dat I i, .dat I l] [] ⟨True, .dat .bool (idxF i l), []⟩ := @of_eq _ _ (by kernel_rfl) hvc
theorem vc_tinTime (t : Int) (hvc :
 let c1 := D.ge t (0 : Int); true = true ∧ (True → (c1 = true → c1 = true → c1 = true) ∧ (D.and true c1 = true → c1 = true) ∧ D.cnd c1 (D.le t (1000000 : Int))
  false = tim20 t ∧ True)) :
    evF (mkc KR5) noAnn 45 [.dat I t] [] ⟨True, .dat .bool (tim20 t), []⟩ := @of_eq _ _ (by kernel_rfl) hvc
theorem vc_tdemand (b : Bool) (hvc :
 let c1 := chainOf (Value.iface (40) (Value.int IntKind.i64 (1 : Int))); True ∧ (True → (D.not b = true → (true = true → True ∧ (false = false → b = false ∧ true
  = true ∧ c1 = c1)) ∧ True) ∧ (D.not b = false → b = true ∧ True))) :
    evC (mkc KR5) noAnn 29 [.dat .bool b] (.tup []) ⟨True, b, errV 40 1⟩ := @of_eq _ _ (by kernel_rfl) hvc
theorem vc_tcode (e : Int) (hvc :
  true = true ∧ (True → (true = true → e = e ∧ True) ∧ (true = false → (1 : Int) = e ∧ True))) :
    evF (mkc KR5) noAnn 27 [.ifc 40 (.dat I e)] [] ⟨True, .dat I e, []⟩ := @of_eq _ _ (by kernel_rfl) hvc
def KR6 : Kt := kOr 53 (dataK [.val I, .val I] (fun _ => True) fun (i, l, _) => .dat .bool (idxF i l)) <|
  kOr 45 (dataK [.val I] (fun _ => True) fun (t, _) => .dat .bool (tim20 t)) <|
  kOr 29 (dataK [.val .bool] (fun (b, _) => True ∧ b = true) fun _ => .tup []) <| kOr 27 codeK KR5
theorem vc_tus1 (l o : Int) (cs : LC) (ns os : LB) (fs : List Off) (ls : List Line) (ks : List Cla) (hvc :
 let c1 := D.ne l (-1 : Int);
 let c2 := D.ilen ls;
 let c3 := D.not (idxF l c2); true = true ∧ (True → (c1 = true → c1 = true → c1 = true) ∧ (c1 = true → c1 = true → c1 = true) ∧ (c1 = true → c1 = true → c1 =
  true) ∧ (c1 = true → c1 = true → c1 = true) ∧ (c1 = true → c1 = true → c1 = true) ∧ (c1 = true → c1 = true → c1 = true) ∧ (c1 = true → True) ∧ (c1 = true → c1
  = true → c1 = true) ∧ (c1 = true → c1 = true → c1 = true) ∧ (D.and c1 (D.not c3) = true → D.and c1 (D.not c3) = true → D.and c1 (D.not c3) = true) ∧ (D.and c1
  (D.not c3) = true → D.and c1 (D.not c3) = true → D.and c1 (D.not c3) = true) ∧ (D.and c1 (D.not c3) = true → D.and c1 (D.not c3) = true → D.and c1 (D.not c3) =
  true) ∧ (D.and c1 (D.not c3) = true → D.and c1 (D.not c3) = true → D.and c1 (D.not c3) = true) ∧ (D.and c1 (D.not c3) = true → D.and c1 (D.not c3) = true →
  D.and c1 (D.not c3) = true) ∧ (D.and c1 (D.not c3) = true → D.ile (0 : Int) l) ∧ (D.and c1 (D.not c3) = true → D.ilt l c2) ∧ (D.and c1 (D.not c3) = true →
  D.and c1 (D.not c3) = true → D.and c1 (D.not c3) = true) ∧ (D.and c1 (D.not c3) = true → D.and c1 (D.not c3) = true → D.and c1 (D.not c3) = true) ∧ (D.and c1
  (D.not c3) = true → D.and c1 (D.not c3) = true → D.and c1 (D.not c3) = true) ∧ (D.and c1 (D.not c3) = true → D.and c1 (D.not c3) = true → D.and c1 (D.not c3) =
  true) ∧ (c1 = true → c1 = true → c1 = true) ∧ (c1 = true → D.and c1 (D.not c3) = true → D.and c1 (D.not c3) = true) ∧ (D.and true c1 = true → c1 = true) ∧
  D.cnd c1 (D.cnd c3 true (D.ne (D.get ls (D.nat l) (ByteArray.mk (D.nil UInt8).toArray, (0 : Int), (0 : Int), (0 : Int), (0 : Int), (0 : Int))).snd.fst o))
  false = badC (cs, ns, os, fs, ls, ks) o l ∧ True)) :
    evF (mkc KR6) noAnn 54 [.dat I l, .ipv (.ip N (cs, ns, os, fs, ls, ks)), .ip I o] [] ⟨True, .dat .bool (badC (cs, ns, os, fs, ls, ks) o l), []⟩ := @of_eq _ _ (by kernel_rfl) hvc
theorem vc_tpl1 (e1 e2 e3 e4 t : Int) (hvc :
 let c1 := D.eq e4 (-1 : Int);
 let c2 := D.not c1; true = true ∧ (True → (c2 = true → c2 = true → c2 = true) ∧ (c2 = true → c2 = true → c2 = true) ∧ (c2 = true → c2 = true → c2 = true) ∧
  (D.and true c2 = true → c2 = true) ∧ D.cnd c1 true (D.ge e3 t) = stopAt t (e1, e2, e3, e4) ∧ True)) :
    evF (mkc KR6) noAnn 57 [.agg [.dat I e1, .dat I e2, .dat I e3, .dat I e4], .ip I t] [] ⟨True, .dat .bool (stopAt t (e1, e2, e3, e4)), []⟩ := @of_eq _ _ (by kernel_rfl) hvc
theorem vc_tal1 (e1 : ByteArray) (e2 e3 e4 e5 e6 : Int) (e7 : List ByteArray) (f1 : ByteArray) (f2 f3 f4 f5 f6 : Int) (f7 : List ByteArray) (hvc :
  true = true ∧ (True → D.sEq e1 f1 = nameEq (e1, e2, e3, e4, e5, e6, e7) (f1, f2, f3, f4, f5, f6, f7) ∧ True)) :
    evF (mkc KR6) noAnn 62 [.agg [.dat .str e1, .dat (.int .i64) e2, .dat (.int .i64) e3, .dat (.int .i64) e4, .dat (.int .i64) e5, .dat (.int .i64) e6, .dat (.sl .str) e7], .agg [.dat .str f1, .dat I f2, .dat I f3, .dat I f4, .dat I f5, .dat I f6, .dat (.sl .str) f7]] [] ⟨True, .dat .bool (nameEq (e1, e2, e3, e4, e5, e6, e7) (f1, f2, f3, f4, f5, f6, f7)), []⟩ := @of_eq _ _ (by kernel_rfl) hvc
def us1K (args : List AV) (m : Mem) : Option CRes := match args, m with
  | [.dat (.int .i64) l, .ipv (.ip (.pair (.sl (.pair (.int .i64) (.pair (.sl .bool) (.sl (.int .i64))))) (.pair (.sl .str) (.pair (.sl .str) (.pair (.sl (.pair .str (.pair (.int .i64) (.pair (.int .i64) (.pair (.int .i64) (.pair (.int .i64) (.pair (.int .i64) (.sl .str)))))))) (.pair (.sl (.pair .str (.pair (.int .i64) (.pair (.int .i64) (.pair (.int .i64) (.pair (.int .i64) (.int .i64))))))) (.sl (.pair .str (.pair (.int .i64) (.int .i64))))))))) n), .ip (.int .i64) o], [] => some ⟨True, .dat .bool (badC n o l), []⟩
  | _, _ => none
def KR7 : Kt := kOr 54 us1K <|
  kOr 57 (dataK [.row Stp, .ptr I] (fun _ => True) fun (s, t, _) => .dat .bool (stopAt t s)) <|
  kOr 62 (dataK [.row OF, .row OF] (fun _ => True) fun (a, b, _) => .dat .bool (nameEq a b)) KR6
def idxA (f : Int → Bool) (row : List Int) : Ann := ⟨fun id s => match id with
  | 2 => some { α := Int, inv := fun k => noneTo f row k, st := fun k => put s [(8, .dat I k)], μ := fun k => D.nat (D.sub (D.ilen row) k) }
  | _ => none, fun _ _ => none, fun _ _ => none⟩
def idxStA (t : Int) (l : List Stop) : Ann := ⟨fun id s => match id with
  | 2 => some { α := Int, inv := fun k => sNone t l k, st := fun k => put s [(8, .dat I k)], μ := fun k => D.nat (D.sub (D.ilen l) k) }
  | _ => none, fun _ _ => none, fun _ _ => none⟩
def eqfA (fs gs : List Off) : Ann := ⟨fun id s => match id with
  | 4 => some { α := Int, inv := fun k => alikeTo fs gs k, st := fun k => put s [(17, .dat I k)], μ := fun k => D.nat (D.sub (D.ilen fs) k) }
  | _ => none, fun _ _ => none, fun _ _ => none⟩
theorem vc_idxI (row : List Int) (o : Int) (cs : LC) (ns os : LB) (fs : List Off) (ls : List Line) (ks : List Cla) (hvc :
 let c1 := (cs, ns, os, fs, ls, ks);
 let c2 := fIdx (badC c1 o) row; true = true ∧ (rowFits row → (∃ x, noneTo (badC c1 o) row x ∧ row = row ∧ c1 = c1 ∧ o = o ∧ row = row ∧ D.ilen row = D.ilen row
  ∧ (0 : Int) = x ∧ True) ∧ ∀ (x : Int),
 let c3 := D.lt x (D.ilen row);
 let c4 := badC c1 o (D.get row (D.nat x) (0 : Int));
 let c5 := D.add x (1 : Int); noneTo (badC c1 o) row x → (c3 = true → D.ile (0 : Int) x ∧ D.ilt x (D.ilen row) ∧ True ∧ (c4 = true → x = c2 ∧ True) ∧ (c4 = false
  → inR IntKind.i64 c5 ∧ ∃ y, noneTo (badC c1 o) row y ∧ (row = row ∧ c1 = c1 ∧ o = o ∧ row = row ∧ D.ilen row = D.ilen row ∧ c5 = y ∧ True) ∧ D.nlt (D.nat
  (D.sub (D.ilen row) y)) (D.nat (D.sub (D.ilen row) x)))) ∧ (c3 = false → (-1 : Int) = c2 ∧ True))) :
    evF (mkc KR7) (idxA (badC (cs, ns, os, fs, ls, ks) o) row) 87 [.dat R row, .fn 54 [.ipv (.ip N (cs, ns, os, fs, ls, ks)), .ip I o]] [] ⟨rowFits row, .dat I (fIdx (badC (cs, ns, os, fs, ls, ks) o) row), []⟩ := @of_eq _ _ (by kernel_rfl) hvc
theorem vc_idxP (l : List Stop) (t : Int) (hvc :
 let c1 := D.ilen l; true = true ∧ (sFits l → (∃ x, sNone t l x ∧ l = l ∧ t = t ∧ l = l ∧ c1 = c1 ∧ (0 : Int) = x ∧ True) ∧ ∀ (x : Int),
 let c2 := D.get l (D.nat x) ((0 : Int), (0 : Int), (0 : Int), (0 : Int));
 let c3 := c2.snd;
 let c4 := c3.snd;
 let c5 := stopAt t (c2.fst, c3.fst, c4.fst, c4.snd);
 let c6 := D.add x (1 : Int); sNone t l x → (D.lt x c1 = true → D.ile (0 : Int) x ∧ D.ilt x c1 ∧ True ∧ (c5 = true → x = sIdx t l ∧ True) ∧ (c5 = false → inR
  IntKind.i64 c6 ∧ ∃ y, sNone t l y ∧ (l = l ∧ t = t ∧ l = l ∧ c1 = c1 ∧ c6 = y ∧ True) ∧ D.nlt (D.nat (D.sub c1 y)) (D.nat (D.sub c1 x)))) ∧ (D.lt x c1 = false
  → (-1 : Int) = sIdx t l ∧ True))) :
    evF (mkc KR7) (idxStA t l) 56 [.dat (.sl Stp) l, .fn 57 [.ip I t]] [] ⟨sFits l, .dat I (sIdx t l), []⟩ := @of_eq _ _ (by kernel_rfl) hvc
theorem vc_eqf (fs gs : List Off) (hvc :
 let c1 := D.ilen fs;
 let c2 := D.ilen gs;
 let c3 := D.ne c1 c2;
 let c4 := (ByteArray.mk (D.nil UInt8).toArray, (0 : Int), (0 : Int), (0 : Int), (0 : Int), (0 : Int), D.nil ByteArray); true = true ∧ (oFits fs → (c3 = true →
  false = alikeO fs gs ∧ True) ∧ (c3 = false → (∃ x, alikeTo fs gs x ∧ fs = fs ∧ gs = gs ∧ fs = fs ∧ c1 = c1 ∧ gs = gs ∧ c2 = c2 ∧ c3 = c3 ∧ fs = fs ∧ c1 = c1 ∧
  (0 : Int) = x ∧ True) ∧ ∀ (x : Int),
 let c5 := D.get fs (D.nat x) c4;
 let c6 := c5.snd;
 let c7 := c6.snd;
 let c8 := c7.snd;
 let c9 := c8.snd;
 let c10 := c9.snd;
 let c11 := D.get gs (D.nat x) c4;
 let c12 := c11.snd;
 let c13 := c12.snd;
 let c14 := c13.snd;
 let c15 := c14.snd;
 let c16 := c15.snd;
 let c17 := D.not (nameEq (c5.fst, c6.fst, c7.fst, c8.fst, c9.fst, c10.fst, c10.snd) (c11.fst, c12.fst, c13.fst, c14.fst, c15.fst, c16.fst, c16.snd));
 let c18 := D.add x (1 : Int); alikeTo fs gs x → (D.lt x c1 = true → D.ile (0 : Int) x ∧ D.ilt x c1 ∧ 1 = 1 ∧ 0 = 0 ∧ D.ile (0 : Int) x ∧ D.ilt x c2 ∧ 1 = 1 ∧ 0
  = 0 ∧ 1 = 1 ∧ 0 = 0 ∧ 1 = 1 ∧ 0 = 0 ∧ True ∧ (c17 = true → false = alikeO fs gs ∧ True) ∧ (c17 = false → inR IntKind.i64 c18 ∧ ∃ y, alikeTo fs gs y ∧ (fs = fs
  ∧ gs = gs ∧ fs = fs ∧ c1 = c1 ∧ gs = gs ∧ c2 = c2 ∧ c3 = c3 ∧ fs = fs ∧ c1 = c1 ∧ c18 = y ∧ True) ∧ D.nlt (D.nat (D.sub c1 y)) (D.nat (D.sub c1 x)))) ∧ (D.lt x
  c1 = false → true = alikeO fs gs ∧ True)))) :
    evF (mkc KR7) (eqfA fs gs) 61 [.dat (.sl OF) fs, .dat (.sl OF) gs, .fn 62 []] [] ⟨oFits fs, .dat .bool (alikeO fs gs), []⟩ := @of_eq _ _ (by kernel_rfl) hvc
theorem t_tinside (i l : Int) : SoundC Tryz.prog G0 53 [.dat I i, .dat I l] [] ⟨True, .dat .bool (idxF i l), []⟩ := by
  refine sound_of_ev (c := mkc KR5) KSR5 KI0s hm (vc_tinside i l ⟨rfl, fun _ => ⟨fun h _ => h, fun h _ => h, fun h => by simpa [D.and] using h, ?_, trivial⟩⟩)
  unfold idxF
  simp only [D.cnd, D.ge, D.lt, ge_iff_le]
  by_cases h : 0 ≤ i <;> simp [h]
theorem t_tinTime (t : Int) : SoundC Tryz.prog G0 45 [.dat I t] [] ⟨True, .dat .bool (tim20 t), []⟩ := by
  refine sound_of_ev (c := mkc KR5) KSR5 KI0s hm (vc_tinTime t ⟨rfl, fun _ => ⟨fun h _ => h, fun h => by simpa [D.and] using h, ?_, trivial⟩⟩)
  unfold tim20
  simp only [D.cnd, D.ge, D.le, ge_iff_le]
  by_cases h : 0 ≤ t <;> simp [h]
theorem t_tdemand (b : Bool) : SoundC Tryz.prog G0 29 [.dat .bool b] [] ⟨True ∧ b = true, .tup [], []⟩ ∧ SoundP Tryz.prog G0 29 [.dat .bool b] ⟨True, b, errV 40 1⟩ := by
  refine sound_of_evC (c := mkc KR5) KSR5 KI0s hm noP_ok (vc_tdemand b ⟨trivial, fun _ => ⟨fun h => ⟨fun _ => ⟨trivial, fun _ => ⟨?_, rfl, rfl⟩⟩, trivial⟩, fun h => ⟨?_, trivial⟩⟩⟩)
  · simpa [D.not] using h
  · simpa [D.not] using h
theorem t_tcode (e : Int) : SoundC Tryz.prog G0 27 [.ifc 40 (.dat I e)] [] ⟨True, .dat I e, []⟩ :=
  sound_of_ev (c := mkc KR5) KSR5 KI0s hm (vc_tcode e ⟨rfl, fun _ => ⟨fun _ => ⟨rfl, trivial⟩, fun h => by cases h⟩⟩)
theorem codeK_of {f : FuncId} (h0 : ∀ e : Int, SoundC Tryz.prog G0 f [.ifc 40 (.dat I e)] [] ⟨True, .dat I e, []⟩) : ∀ args m c, codeK args m = some c → SoundC Tryz.prog G0 f args m c := by
  intro args m c h
  unfold codeK at h
  split at h
  · split at h
    · rename_i e
      subst e
      cases h
      exact h0 _
    · cases h
  · cases h
theorem KSR6 : KSound Tryz.prog G0 KR6 := kOr_ok (dataK_ok fun (i, l, _) => t_tinside i l) <| kOr_ok (dataK_ok fun (t, _) => t_tinTime t) <| kOr_ok (dataK_ok fun (b, _) => (t_tdemand b).1) <| kOr_ok (codeK_of t_tcode) KSR5
theorem t_tus1 (l o : Int) (cs : LC) (ns os : LB) (fs : List Off) (ls : List Line) (ks : List Cla) : SoundC Tryz.prog G0 54 [.dat I l, .ipv (.ip N (cs, ns, os, fs, ls, ks)), .ip I o] [] ⟨True, .dat .bool (badC (cs, ns, os, fs, ls, ks) o l), []⟩ := by
  refine sound_of_ev (c := mkc KR6) KSR6 KI0s hm (vc_tus1 l o cs ns os fs ls ks ⟨rfl, fun _ => ?_⟩)
  have ec := cell_cnd (cs, ns, os, fs, ls, ks) o l
  have ec : D.cnd (D.ne l (-1)) (D.cnd (D.not (idxF l (D.ilen ls))) true (D.ne (D.get ls (D.nat l) (⟨#[]⟩, 0, 0, 0, 0, 0)).2.1 o)) false = badC (cs, ns, os, fs, ls, ks) o l := ec
  simp only [cnd_or, cnd_and, D.and, D.or, D.not, Bool.true_and, Bool.and_true, Bool.false_or, Bool.or_false, eq_self, true_and, and_true, imp_self, implies_true, Bool.not_eq_true', Bool.or_eq_true, Bool.or_eq_false_iff, Bool.not_eq_false', Bool.and_eq_true, Bool.and_eq_false_imp, Bool.not_not, forall_const, exists_eq_right, exists_eq_right', exists_eq_left, exists_eq_left', Int.toNat_natCast, Nat.zero_add, Nat.mul_one, Int.ofNat_eq_natCast, D.nil, D.eq, D.ne, D.lt, D.gt, D.le, D.ge, D.beq, D.ilen, D.slen, D.ile, D.ilt, D.ine, D.nle, D.nlt, D.sub, D.add, D.mul, D.neg, D.nat, D.ofN, D.len, D.nadd, D.nmul, D.get, D.mn, D.mx, D.set, D.app, D.tail, D.part, D.seg, D.rep, D.at2, decide_eq_true_eq, decide_eq_false_iff_not, beq_iff_eq, bne_iff_ne, beq_eq_false_iff_ne, bne_eq_false_iff_eq, D.wrap, D.allNil] at ec ⊢
  exact ⟨fun h => (idxF_iff.1 h.2).1, fun h => (idxF_iff.1 h.2).2, ec⟩
theorem t_tpl1 (t : Int) (s : Stop) : SoundC Tryz.prog G0 57 [.agg (cellsOf Stp s), .ip I t] [] ⟨True, .dat .bool (stopAt t s), []⟩ := by
  obtain ⟨e1, e2, e3, e4⟩ := s
  refine sound_of_ev (c := mkc KR6) KSR6 KI0s hm (vc_tpl1 e1 e2 e3 e4 t ⟨rfl, fun _ => ?_⟩)
  simp only [cnd_or, cnd_and, D.and, D.or, D.not, Bool.true_and, Bool.and_true, Bool.false_or, Bool.or_false, eq_self, true_and, and_true, imp_self, implies_true, Bool.not_eq_true', Bool.or_eq_true, Bool.or_eq_false_iff, Bool.not_eq_false', Bool.and_eq_true, Bool.and_eq_false_imp, Bool.not_not, forall_const, exists_eq_right, exists_eq_right', exists_eq_left, exists_eq_left', Int.toNat_natCast, Nat.zero_add, Nat.mul_one, Int.ofNat_eq_natCast, D.nil, D.eq, D.ne, D.lt, D.gt, D.le, D.ge, D.beq, D.ilen, D.slen, D.ile, D.ilt, D.ine, D.nle, D.nlt, D.sub, D.add, D.mul, D.neg, D.nat, D.ofN, D.len, D.nadd, D.nmul, D.get, D.mn, D.mx, D.set, D.app, D.tail, D.part, D.seg, D.rep, D.at2, decide_eq_true_eq, decide_eq_false_iff_not, beq_iff_eq, bne_iff_ne, beq_eq_false_iff_ne, bne_eq_false_iff_eq, D.wrap, D.allNil]
  unfold stopAt
  by_cases h : e4 = -1 <;> simp [h]
theorem t_tal1 (a b : Off) : SoundC Tryz.prog G0 62 [.agg (cellsOf OF a), .agg (cellsOf OF b)] [] ⟨True, .dat .bool (nameEq a b), []⟩ := by
  obtain ⟨e1, e2, e3, e4, e5, e6, e7⟩ := a
  obtain ⟨f1, f2, f3, f4, f5, f6, f7⟩ := b
  refine sound_of_ev (c := mkc KR6) KSR6 KI0s hm (vc_tal1 e1 e2 e3 e4 e5 e6 e7 f1 f2 f3 f4 f5 f6 f7 ⟨rfl, fun _ => ?_⟩)
  simp only [cnd_or, cnd_and, D.and, D.or, D.not, Bool.true_and, Bool.and_true, Bool.false_or, Bool.or_false, eq_self, true_and, and_true, imp_self, implies_true, Bool.not_eq_true', Bool.or_eq_true, Bool.or_eq_false_iff, Bool.not_eq_false', Bool.and_eq_true, Bool.and_eq_false_imp, Bool.not_not, forall_const, exists_eq_right, exists_eq_right', exists_eq_left, exists_eq_left', Int.toNat_natCast, Nat.zero_add, Nat.mul_one, Int.ofNat_eq_natCast, D.nil, D.eq, D.ne, D.lt, D.gt, D.le, D.ge, D.beq, D.ilen, D.slen, D.ile, D.ilt, D.ine, D.nle, D.nlt, D.sub, D.add, D.mul, D.neg, D.nat, D.ofN, D.len, D.nadd, D.nmul, D.get, D.mn, D.mx, D.set, D.app, D.tail, D.part, D.seg, D.rep, D.at2, decide_eq_true_eq, decide_eq_false_iff_not, beq_iff_eq, bne_iff_ne, beq_eq_false_iff_ne, bne_eq_false_iff_eq, D.wrap, D.allNil]
  rfl
theorem find_hit {α : Type} {p : α → Bool} {xs : List α} {d : α} {k : Int} (h : ∀ i : Nat, (i : Int) < k → p (xs.getD i d) = false) (k0 : 0 ≤ k) (k1 : k < xs.length) (hp : p (xs.getD k.toNat d) = true) : xs.findIdx? p = some k.toNat := by
  rw [List.findIdx?_eq_some_iff_getElem]
  have hk : k.toNat < xs.length := by omega
  refine ⟨hk, by rw [List.getD_eq_getElem?_getD, List.getElem?_eq_getElem hk] at hp; exact hp, fun j hj => ?_⟩
  have := h j (by omega)
  rw [List.getD_eq_getElem?_getD, List.getElem?_eq_getElem (show j < xs.length by omega), Option.getD_some] at this
  rw [this]; exact Bool.false_ne_true
theorem find_none {α : Type} {p : α → Bool} {xs : List α} {d : α} {k : Int} (h : ∀ i : Nat, (i : Int) < k → p (xs.getD i d) = false) (k1 : ¬ k < xs.length) : xs.findIdx? p = none := by
  rw [List.findIdx?_eq_none_iff]
  intro x hx
  obtain ⟨i, hi, rfl⟩ := List.mem_iff_getElem.1 hx
  have := h i (by omega)
  rw [List.getD_eq_getElem?_getD, List.getElem?_eq_getElem hi] at this
  exact this
theorem none_next {α : Type} {p : α → Bool} {xs : List α} {d : α} {k : Int} (h : ∀ i : Nat, (i : Int) < k → p (xs.getD i d) = false) (hp : p (xs.getD k.toNat d) = false) (k0 : 0 ≤ k) : ∀ i : Nat, (i : Int) < k + 1 → p (xs.getD i d) = false := fun i hi => by
  by_cases e : (i : Int) < k
  · exact h i e
  · have : i = k.toNat := by omega
    rw [this]; exact hp
theorem us1K_ok : ∀ args m c, us1K args m = some c → SoundC Tryz.prog G0 54 args m c := by
  intro args m c h
  unfold us1K at h
  split at h
  · cases h; exact t_tus1 _ _ _ _ _ _ _ _
  · cases h
theorem KSR7 : KSound Tryz.prog G0 KR7 := kOr_ok us1K_ok <| kOr_ok (dataK_ok fun (s, t, _) => t_tpl1 t s) <| kOr_ok (dataK_ok fun (a, b, _) => t_tal1 a b) KSR6
theorem t_idxI (row : List Int) (o : Int) (cs : LC) (ns os : LB) (fs : List Off) (ls : List Line) (ks : List Cla) : SoundC Tryz.prog G0 87 [.dat R row, .fn 54 [.ipv (.ip N (cs, ns, os, fs, ls, ks)), .ip I o]] [] ⟨rowFits row, .dat I (fIdx (badC (cs, ns, os, fs, ls, ks) o) row), []⟩ := by
  refine sound_of_ev (c := mkc KR7) KSR7 KI0s hm (vc_idxI row o cs ns os fs ls ks ⟨rfl, fun hp => ?_⟩)
  simp only [cnd_or, cnd_and, D.and, D.or, D.not, Bool.true_and, Bool.and_true, Bool.false_or, Bool.or_false, eq_self, true_and, and_true, imp_self, implies_true, Bool.not_eq_true', Bool.or_eq_true, Bool.or_eq_false_iff, Bool.not_eq_false', Bool.and_eq_true, Bool.and_eq_false_imp, Bool.not_not, forall_const, exists_eq_right, exists_eq_right', exists_eq_left, exists_eq_left', Int.toNat_natCast, Nat.zero_add, Nat.mul_one, Int.ofNat_eq_natCast, D.nil, D.eq, D.ne, D.lt, D.gt, D.le, D.ge, D.beq, D.ilen, D.slen, D.ile, D.ilt, D.ine, D.nle, D.nlt, D.sub, D.add, D.mul, D.neg, D.nat, D.ofN, D.len, D.nadd, D.nmul, D.get, D.mn, D.mx, D.set, D.app, D.tail, D.part, D.seg, D.rep, D.at2, decide_eq_true_eq, decide_eq_false_iff_not, beq_iff_eq, bne_iff_ne, beq_eq_false_iff_ne, bne_eq_false_iff_eq, D.wrap, D.allNil]
  have hp : row.length ≤ 1000000 := hp
  refine ⟨⟨Int.le_refl _, by omega, fun i h => by omega⟩, fun x hx => ⟨fun hlt => ⟨hx.1, hlt, fun hb => ?_, fun hb => ⟨in_big (by have := hx.1; omega), x + 1, ⟨by have := hx.1; omega, by omega, none_next hx.2.2 hb hx.1⟩, rfl, by have := hx.1; omega⟩⟩, fun hge => ?_⟩⟩
  · unfold fIdx; rw [find_hit hx.2.2 hx.1 hlt hb]; exact (Int.toNat_of_nonneg hx.1).symm
  · unfold fIdx; rw [find_none hx.2.2 hge]
theorem t_idxP (l : List Stop) (t : Int) : SoundC Tryz.prog G0 56 [.dat (.sl Stp) l, .fn 57 [.ip I t]] [] ⟨sFits l, .dat I (sIdx t l), []⟩ := by
  refine sound_of_ev (c := mkc KR7) KSR7 KI0s hm (vc_idxP l t ⟨rfl, fun hp => ?_⟩)
  simp only [cnd_or, cnd_and, D.and, D.or, D.not, Bool.true_and, Bool.and_true, Bool.false_or, Bool.or_false, eq_self, true_and, and_true, imp_self, implies_true, Bool.not_eq_true', Bool.or_eq_true, Bool.or_eq_false_iff, Bool.not_eq_false', Bool.and_eq_true, Bool.and_eq_false_imp, Bool.not_not, forall_const, exists_eq_right, exists_eq_right', exists_eq_left, exists_eq_left', Int.toNat_natCast, Nat.zero_add, Nat.mul_one, Int.ofNat_eq_natCast, D.nil, D.eq, D.ne, D.lt, D.gt, D.le, D.ge, D.beq, D.ilen, D.slen, D.ile, D.ilt, D.ine, D.nle, D.nlt, D.sub, D.add, D.mul, D.neg, D.nat, D.ofN, D.len, D.nadd, D.nmul, D.get, D.mn, D.mx, D.set, D.app, D.tail, D.part, D.seg, D.rep, D.at2, decide_eq_true_eq, decide_eq_false_iff_not, beq_iff_eq, bne_iff_ne, beq_eq_false_iff_ne, bne_eq_false_iff_eq, D.wrap, D.allNil]
  have hp : l.length ≤ 1000000 := hp
  refine ⟨⟨Int.le_refl _, by omega, fun i h => by omega⟩, fun x hx => ⟨fun hlt => ⟨hx.1, hlt, fun hb => ?_, fun hb => ⟨in_big (by have := hx.1; omega), x + 1, ⟨by have := hx.1; omega, by omega, none_next hx.2.2 hb hx.1⟩, rfl, by have := hx.1; omega⟩⟩, fun hge => ?_⟩⟩
  · unfold sIdx; rw [find_hit hx.2.2 hx.1 hlt hb]; exact (Int.toNat_of_nonneg hx.1).symm
  · unfold sIdx; rw [find_none hx.2.2 hge]
theorem t_eqf (fs gs : List Off) : SoundC Tryz.prog G0 61 [.dat (.sl OF) fs, .dat (.sl OF) gs, .fn 62 []] [] ⟨oFits fs, .dat .bool (alikeO fs gs), []⟩ := by
  refine sound_of_ev (c := mkc KR7) KSR7 KI0s hm (vc_eqf fs gs ⟨rfl, fun hp => ?_⟩)
  simp only [cnd_or, cnd_and, D.and, D.or, D.not, Bool.true_and, Bool.and_true, Bool.false_or, Bool.or_false, eq_self, true_and, and_true, imp_self, implies_true, Bool.not_eq_true', Bool.or_eq_true, Bool.or_eq_false_iff, Bool.not_eq_false', Bool.and_eq_true, Bool.and_eq_false_imp, Bool.not_not, forall_const, exists_eq_right, exists_eq_right', exists_eq_left, exists_eq_left', Int.toNat_natCast, Nat.zero_add, Nat.mul_one, Int.ofNat_eq_natCast, D.nil, D.eq, D.ne, D.lt, D.gt, D.le, D.ge, D.beq, D.ilen, D.slen, D.ile, D.ilt, D.ine, D.nle, D.nlt, D.sub, D.add, D.mul, D.neg, D.nat, D.ofN, D.len, D.nadd, D.nmul, D.get, D.mn, D.mx, D.set, D.app, D.tail, D.part, D.seg, D.rep, D.at2, decide_eq_true_eq, decide_eq_false_iff_not, beq_iff_eq, bne_iff_ne, beq_eq_false_iff_ne, bne_eq_false_iff_eq, D.wrap, D.allNil]
  have hp : fs.length ≤ 1000000 := hp
  refine ⟨fun hne => ?_, fun he => ⟨⟨Int.le_refl _, by omega, he, fun i h => by omega⟩, fun x hx => ⟨fun hlt => ⟨hx.1, hlt, hx.1, by omega, fun hb => ?_, fun hb => ⟨in_big (by have := hx.1; omega), x + 1, ⟨by have := hx.1; omega, by omega, he, fun i hi => ?_⟩, rfl, by have := hx.1; omega⟩⟩, fun hge => ?_⟩⟩⟩
  · unfold alikeO; rw [decide_eq_false hne]; rfl
  · refine (Bool.eq_false_iff.2 fun ht => ?_).symm
    unfold alikeO at ht
    simp only [Bool.and_eq_true, List.all_eq_true, List.mem_range] at ht
    have := ht.2 x.toNat (by have := hx.1; omega)
    have hb : nameEq (fs.getD x.toNat (⟨#[]⟩, 0, 0, 0, 0, 0, [])) (gs.getD x.toNat (⟨#[]⟩, 0, 0, 0, 0, 0, [])) = false := hb
    rw [hb] at this; cases this
  · by_cases e : (i : Int) < x
    · exact hx.2.2.2 i e
    · have : i = x.toNat := by have := hx.1; omega
      rw [this]; exact hb
  · unfold alikeO
    rw [decide_eq_true he, Bool.true_and]
    exact (List.all_eq_true.2 fun i hi => hx.2.2.2 i (by have := List.mem_range.1 hi; omega)).symm
end Go.Eng.Sv
