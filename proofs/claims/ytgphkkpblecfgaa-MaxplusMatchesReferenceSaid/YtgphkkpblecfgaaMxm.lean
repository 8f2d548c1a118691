/- PeMxm -/
import Derived.Test.YtgphkkpblecfgaaY22
import Derived.Test.YtgphkkpblecfgaaMm0m
set_option linter.unusedSimpArgs false
set_option linter.unusedVariables false
set_option maxRecDepth 100000
namespace Go.Eng.Mp
open Go.Proofs
open Go.Eng.Sv (I R M G0 KI0)
open Go.Eng.Sv (KI0s hm)


noncomputable def infF (x : Int) : Bool := decide (x ≤ -549755813888)
noncomputable def elemF (x : Int) : Bool := infF x || (decide (x ≥ -1000000000) && decide (x ≤ 1000000000))
noncomputable def plusF (x y : Int) : Int := bif infF x && infF y then -1099511627776 else max x y
noncomputable def timesF (x y : Int) : Int := bif infF x || infF y then -1099511627776 else x + y
noncomputable def timesP (x y : Int) : Prop := infF x = false → infF y = false → inR .i64 (x + y)
noncomputable def eitherF (x y : Bool) : Bool := x || y
noncomputable def foldN {α : Type} (op : α → α → α) (g : Int → α) (z : α) : Nat → α
  | 0 => z
  | k + 1 => op (foldN op g z k) (g k)
noncomputable def foldI (op : Int → Int → Int) (g : Int → Int) (z n : Int) : Int := foldN op g z n.toNat
noncomputable def foldB (op : Bool → Bool → Bool) (g : Int → Bool) (z : Bool) (n : Int) : Bool := foldN op g z n.toNat
noncomputable def preFold (n : Int) (preP : Int → Int → Prop) (preT : Int → Prop) (g : Int → Int) : Prop := n ≤ 9223372036854775807 ∧ ∀ k, 0 ≤ k → k < n → preT k ∧ ∀ x, preP x (g k)
noncomputable def preFoldB (n : Int) (preP : Bool → Bool → Prop) (preT : Int → Prop) (g : Int → Bool) : Prop := n ≤ 9223372036854775807 ∧ ∀ k, 0 ≤ k → k < n → preT k ∧ ∀ x, preP x (g k)
noncomputable def upto (k n : Int) : Prop := 0 ≤ k ∧ (k ≤ n ∨ k = 0)
noncomputable def idx (k : Int) (row : List Int) : Prop := 0 ≤ k ∧ k < (row.length : Int)
noncomputable def at1 (row : List Int) (k : Int) : Int := row.getD k.toNat 0
noncomputable def notElem (row : List Int) (k : Int) : Bool := !(elemF (at1 row k))
noncomputable def wrongF (row : List Int) : Bool := foldB eitherF (notElem row) false row.length
noncomputable def lenOk (row : List Int) : Prop := (row.length : Int) ≤ 9223372036854775807

noncomputable def K0 : Kt := fun _ _ _ => none

noncomputable def c0 : Cfg := Sv.mkc K0

set_option maxRecDepth 100000 in
theorem vc_inf (x : Int) (hvc :
  true = true ∧ (True → D.le x (-549755813888 : Int) = infF x ∧ True)) :
    evF c0 noAnn 47 [.dat I x] [] ⟨True, .dat .bool (infF x), []⟩ := of_eq (by kernel_rfl) hvc

theorem KS0 : KSound Try.prog G0 K0 := fun f args m c h => by cases h
theorem s_inf (x : Int) : SoundC Try.prog G0 47 [.dat I x] [] ⟨True, .dat .bool (infF x), []⟩ :=
  sound_of_ev (c := c0) KS0 KI0s hm (vc_inf x ⟨rfl, fun _ => ⟨rfl, trivial⟩⟩)
set_option maxRecDepth 100000 in
theorem vc_either (x y : Bool) (hvc :
  true = true ∧ (True → (D.and true (D.not x) = true → D.not x = true) ∧ D.cnd x true y = eitherF x y ∧ True)) :
    evF c0 noAnn 49 [.dat .bool x, .dat .bool y] [] ⟨True, .dat .bool (eitherF x y), []⟩ := of_eq (by kernel_rfl) hvc

theorem s_either (x y : Bool) : SoundC Try.prog G0 49 [.dat .bool x, .dat .bool y] [] ⟨True, .dat .bool (eitherF x y), []⟩ :=
  sound_of_ev (c := c0) KS0 KI0s hm (vc_either x y (by cases x <;> cases y <;> simp [eitherF]))

noncomputable def foldA (n z : Int) (op : Int → Int → Int) (g : Int → Int) : Ann := ⟨fun id s => match id with
  | 3 => some { α := Int, inv := fun k => upto k n, st := fun k => put s [(13, .dat I k), (9, .dat I (foldI op g z k))], μ := fun k => D.nat (D.sub n k) }
  | _ => none, fun _ _ => none, fun _ _ => none⟩
noncomputable def foldBA (n : Int) (z : Bool) (op : Bool → Bool → Bool) (g : Int → Bool) : Ann := ⟨fun id s => match id with
  | 3 => some { α := Int, inv := fun k => upto k n, st := fun k => put s [(13, .dat I k), (9, .dat .bool (foldB op g z k))], μ := fun k => D.nat (D.sub n k) }
  | _ => none, fun _ _ => none, fun _ _ => none⟩

theorem foldI_zero (op : Int → Int → Int) (g : Int → Int) (z : Int) : foldI op g z 0 = z := rfl
theorem foldI_succ (op : Int → Int → Int) (g : Int → Int) (z k : Int) (h : 0 ≤ k) : foldI op g z (k + 1) = op (foldI op g z k) (g k) := by
  unfold foldI
  have e : (k + 1).toNat = k.toNat + 1 := by omega
  rw [e]
  show op _ (g (k.toNat : Int)) = _
  rw [Int.toNat_of_nonneg h]
theorem foldI_end (op : Int → Int → Int) (g : Int → Int) (z k n : Int) (h : upto k n) (h2 : ¬ k < n) : foldI op g z k = foldI op g z n := by
  unfold foldI
  unfold upto at h
  have e : k.toNat = n.toNat := by omega
  rw [e]

set_option maxRecDepth 100000 in
theorem vc_foldB (n : Int) (z : Bool) (preP : Bool → Bool → Prop) (op : Bool → Bool → Bool) (preT : Int → Prop) (g : Int → Bool) (hvc :
  true = true ∧ (preFoldB n preP preT g → (∃ x, upto x n ∧ n = n ∧ z = z ∧ AV.clo2 Ty.bool Ty.bool Ty.bool preP op = AV.clo2 Ty.bool
  Ty.bool Ty.bool preP op ∧ AV.clo1 (Ty.int IntKind.i64) Ty.bool preT g = AV.clo1 (Ty.int IntKind.i64) Ty.bool preT g ∧ false = false ∧ z = foldB op g z x ∧ z =
  z ∧ n = n ∧ (0 : Int) = x ∧ True) ∧ ∀ (x : Int),
 let c1 := foldB op g z x;
 let c2 := D.add x (1 : Int); upto x n → (D.lt x n = true → preT x ∧ preP c1 (g x) ∧ inR IntKind.i64 c2 ∧ ∃ y, upto y n ∧ (n = n ∧ z = z ∧ AV.clo2 Ty.bool
  Ty.bool Ty.bool preP op = AV.clo2 Ty.bool Ty.bool Ty.bool preP op ∧ AV.clo1 (Ty.int IntKind.i64) Ty.bool preT g = AV.clo1 (Ty.int IntKind.i64) Ty.bool preT g ∧
  false = false ∧ op c1 (g x) = foldB op g z y ∧ z = z ∧ n = n ∧ c2 = y ∧ True) ∧ D.nlt (D.nat (D.sub n y)) (D.nat (D.sub n x))) ∧ (D.lt x n = false → c1 = foldB
  op g z n ∧ True))) :
    evF c0 (foldBA n z op g) 48 [.dat I n, .dat .bool z, .clo2 .bool .bool .bool preP op, .clo1 I .bool preT g] [] ⟨preFoldB n preP preT g, .dat .bool (foldB op g z n), []⟩ := of_eq (by kernel_rfl) hvc

theorem foldB_zero (op : Bool → Bool → Bool) (g : Int → Bool) (z : Bool) : foldB op g z 0 = z := rfl
theorem foldB_succ (op : Bool → Bool → Bool) (g : Int → Bool) (z : Bool) (k : Int) (h : 0 ≤ k) : foldB op g z (k + 1) = op (foldB op g z k) (g k) := by
  unfold foldB
  have e : (k + 1).toNat = k.toNat + 1 := by omega
  rw [e]
  show op _ (g (k.toNat : Int)) = _
  rw [Int.toNat_of_nonneg h]
theorem foldB_end (op : Bool → Bool → Bool) (g : Int → Bool) (z : Bool) (k n : Int) (h : upto k n) (h2 : ¬ k < n) : foldB op g z k = foldB op g z n := by
  unfold foldB
  unfold upto at h
  have e : k.toNat = n.toNat := by omega
  rw [e]

theorem s_foldB (n : Int) (z : Bool) (preP : Bool → Bool → Prop) (op : Bool → Bool → Bool) (preT : Int → Prop) (g : Int → Bool) :
    SoundC Try.prog G0 48 [.dat I n, .dat .bool z, .clo2 .bool .bool .bool preP op, .clo1 I .bool preT g] [] ⟨preFoldB n preP preT g, .dat .bool (foldB op g z n), []⟩ := by
  refine sound_of_ev (c := c0) KS0 KI0s hm (vc_foldB n z preP op preT g ⟨rfl, fun hp => ⟨⟨0, ⟨by omega, .inr rfl⟩, ?_⟩, fun x hx => ⟨fun hlt => ?_, fun hge => ?_⟩⟩⟩)
  · simp [foldB_zero]
  · have hlt : x < n := by simpa using hlt
    have h0 := hx.1
    obtain ⟨p1, p2⟩ := hp.2 x h0 hlt
    refine ⟨p1, p2 _, ?_, x + 1, ⟨by omega, .inl (by omega)⟩, ?_, ?_⟩
    · have := hp.1; simp only [inR, D.add]; omega
    · simp [foldB_succ op g z x h0]
    · simp only [D.nlt, D.nat, D.sub]; omega
  · have hge : ¬ x < n := by simpa using hge
    exact ⟨foldB_end op g z x n hx hge, trivial⟩

noncomputable def K1 : Kt := fun f args m => match f, args, m with
  | 47, [.dat (.int .i64) x], [] => some ⟨True, .dat .bool (infF x), []⟩
  | 49, [.dat .bool x, .dat .bool y], [] => some ⟨True, .dat .bool (eitherF x y), []⟩
  | _, _, _ => none
noncomputable def c1 : Cfg := Sv.mkc K1

set_option maxRecDepth 100000 in
theorem vc_elem (x : Int) (hvc :
 let c1 := D.ge x (-1000000000 : Int); true = true ∧ (True → True ∧ (D.not (infF x) = true → D.not (infF x) = true → D.not (infF x) = true) ∧ (D.not (infF x) =
  true → D.not (infF x) = true → D.not (infF x) = true) ∧ (D.and (D.not (infF x)) c1 = true → D.and (D.not (infF x)) c1 = true → D.and (D.not (infF x)) c1 =
  true) ∧ (D.not (infF x) = true → D.not (infF x) = true → D.not (infF x) = true) ∧ (D.not (infF x) = true → D.and (D.not (infF x)) c1 = true → D.and (D.not
  (infF x)) c1 = true) ∧ (D.and true (D.not (infF x)) = true → D.not (infF x) = true) ∧ D.cnd (infF x) true (D.cnd c1 (D.le x (1000000000 : Int)) false) = elemF
  x ∧ True)) :
    evF c1 noAnn 52 [.dat I x] [] ⟨True, .dat .bool (elemF x), []⟩ := of_eq (by kernel_rfl) hvc

theorem KS1 : KSound Try.prog G0 K1 := by
  intro f args m c h
  unfold K1 at h
  split at h
  · cases h; exact s_inf _
  · cases h; exact s_either _ _
  · cases h
theorem s_elem (x : Int) : SoundC Try.prog G0 52 [.dat I x] [] ⟨True, .dat .bool (elemF x), []⟩ :=
  sound_of_ev (c := c1) KS1 KI0s hm (vc_elem x (by cases h : infF x <;> simp [elemF, h, Bool.cond_eq_ite]))
set_option maxRecDepth 100000 in
theorem vc_plus (x y : Int) (hvc :
 let c1 := D.cnd (infF x) (infF y) false; true = true ∧ (True → True ∧ (infF x = true → infF x = true → infF x = true) ∧ (infF x = true → True) ∧ (D.and true
  (infF x) = true → infF x = true) ∧ (c1 = true → (-1099511627776 : Int) = plusF x y ∧ True) ∧ (c1 = false → D.mx x y = plusF x y ∧ True))) :
    evF c1 noAnn 34 [.dat I x, .dat I y] [] ⟨True, .dat I (plusF x y), []⟩ := of_eq (by kernel_rfl) hvc

theorem s_plus (x y : Int) : SoundC Try.prog G0 34 [.dat I x, .dat I y] [] ⟨True, .dat I (plusF x y), []⟩ :=
  sound_of_ev (c := c1) KS1 KI0s hm (vc_plus x y (by cases h : infF x <;> cases h2 : infF y <;> simp [plusF, h, h2]))
set_option maxRecDepth 100000 in
theorem vc_times (x y : Int) (hvc :
 let c1 := D.cnd (infF x) true (infF y); true = true ∧ (timesP x y → True ∧ (D.not (infF x) = true → D.not (infF x) = true → D.not (infF x) = true) ∧ (D.not
  (infF x) = true → True) ∧ (D.and true (D.not (infF x)) = true → D.not (infF x) = true) ∧ (c1 = true → (-1099511627776 : Int) = timesF x y ∧ True) ∧ (c1 = false
  → inR IntKind.i64 (D.add x y) ∧ D.add x y = timesF x y ∧ True))) :
    evF c1 noAnn 37 [.dat I x, .dat I y] [] ⟨timesP x y, .dat I (timesF x y), []⟩ := of_eq (by kernel_rfl) hvc

theorem s_times (x y : Int) : SoundC Try.prog G0 37 [.dat I x, .dat I y] [] ⟨timesP x y, .dat I (timesF x y), []⟩ :=
  sound_of_ev (c := c1) KS1 KI0s hm (vc_times x y (by cases h : infF x <;> cases h2 : infF y <;> simp [timesF, timesP, h, h2]))

noncomputable def K2 : Kt := fun f args m => match f, args, m with
  | 52, [.dat (.int .i64) x], [] => some ⟨True, .dat .bool (elemF x), []⟩
  | 34, [.dat (.int .i64) x, .dat (.int .i64) y], [] => some ⟨True, .dat I (plusF x y), []⟩
  | 37, [.dat (.int .i64) x, .dat (.int .i64) y], [] => some ⟨timesP x y, .dat I (timesF x y), []⟩
  | _, _, _ => K1 f args m
noncomputable def c2 : Cfg := Sv.mkc K2

set_option maxRecDepth 100000 in
theorem vc_wrong1 (k : Int) (row : List Int) (hvc :
  true = true ∧ (idx k row → D.ile (0 : Int) k ∧ D.ilt k (D.ilen row) ∧ True ∧ D.not (elemF (D.get row (D.nat k) (0 : Int))) = notElem row k ∧ True)) :
    evF c2 noAnn 51 [.dat I k, .ip R row] [] ⟨idx k row, .dat .bool (notElem row k), []⟩ := of_eq (by kernel_rfl) hvc

theorem KS2 : KSound Try.prog G0 K2 := by
  intro f args m c h
  unfold K2 at h
  split at h
  · cases h; exact s_elem _
  · cases h; exact s_plus _ _
  · cases h; exact s_times _ _
  · exact KS1 _ _ _ _ h
theorem s_wrong1 (k : Int) (row : List Int) : SoundC Try.prog G0 51 [.dat I k, .ip R row] [] ⟨idx k row, .dat .bool (notElem row k), []⟩ :=
  sound_of_ev (c := c2) KS2 KI0s hm (vc_wrong1 k row ⟨rfl, fun h => ⟨h.1, h.2, trivial, rfl, trivial⟩⟩)
theorem relL_dat2 {P : Program} {C : Ctx} {a b x y x' y' : AV} {us : List Value} (h : AV.relL P C [a, b, x, y] us) (hx : ∀ v, x.rel P C v → x'.rel P C v) (hy : ∀ v, y.rel P C v → y'.rel P C v) : AV.relL P C [a, b, x', y'] us := by
  obtain ⟨u, us, rfl, h1, u2, us, rfl, h2, u3, us, rfl, h3, u4, us, rfl, h4, h5⟩ := h
  exact ⟨_, _, rfl, h1, _, _, rfl, h2, _, _, rfl, hx _ h3, _, _, rfl, hy _ h4, h5⟩
theorem either_clo {C : Ctx} (hG : relG Try.prog C G0) {v : Value} (h : (AV.fn 49 []).rel Try.prog C v) : (AV.clo2 .bool .bool .bool (fun _ _ => True) eitherF).rel Try.prog C v :=
  clo2_of_fn (by kernel_rfl) rfl (fun x y => s_either x y) hG h
theorem plus_clo {C : Ctx} (hG : relG Try.prog C G0) {v : Value} (h : (AV.fn 34 []).rel Try.prog C v) : (AV.clo2 I I I (fun _ _ => True) plusF).rel Try.prog C v :=
  clo2_of_fn (by kernel_rfl) rfl (fun x y => s_plus x y) hG h
theorem s_foldB_fn (n : Int) (z : Bool) {f : FuncId} {caps : List AV} (preT : Int → Prop) (g : Int → Bool) (hg : goes Try.prog f = true) (hn : AV.namesL caps = []) (h : ∀ k, SoundC Try.prog G0 f (.dat I k :: caps) [] ⟨preT k, .dat .bool (g k), []⟩) :
    SoundC Try.prog G0 48 [.dat I n, .dat .bool z, .fn 49 [], .fn f caps] [] ⟨preFoldB n (fun _ _ => True) preT g, .dat .bool (foldB eitherF g z n), []⟩ :=
  (s_foldB n z _ eitherF preT g).args fun _ _ hG hu => relL_dat2 hu (fun _ h => either_clo hG h) (fun _ hv => clo1_of_fn hg hn h hG hv)

noncomputable def K3 : Kt := fun f args m => match f, args, m with
  | 48, [.dat (.int .i64) n, .dat .bool z, .fn 49 [], .fn 51 [.ip (.sl (.int .i64)) row]], [] => some ⟨preFoldB n (fun _ _ => True) (fun k => idx k row) (notElem row), .dat .bool (foldB eitherF (notElem row) z n), []⟩
  | _, _, _ => K2 f args m
noncomputable def c3 : Cfg := Sv.mkc K3

set_option maxRecDepth 100000 in
theorem vc_wrong (row : List Int) (hvc :
  true = true ∧ (lenOk row → preFoldB (D.ilen row) (fun x x_1 ↦ True) (fun k ↦ idx k row) (notElem row) ∧ foldB eitherF (notElem row) false (D.ilen row)
  = wrongF row ∧ True)) :
    evF c3 noAnn 38 [.dat R row] [] ⟨lenOk row, .dat .bool (wrongF row), []⟩ := of_eq (by kernel_rfl) hvc

theorem KS3 : KSound Try.prog G0 K3 := by
  intro f args m c h
  unfold K3 at h
  split at h
  · cases h; exact s_foldB_fn _ _ _ _ (by kernel_rfl) rfl (fun k => s_wrong1 k _)
  · exact KS2 _ _ _ _ h
theorem s_wrong (row : List Int) : SoundC Try.prog G0 38 [.dat R row] [] ⟨lenOk row, .dat .bool (wrongF row), []⟩ :=
  sound_of_ev (c := c3) KS3 KI0s hm (vc_wrong row ⟨rfl, fun h => ⟨⟨h, fun k h0 h1 => ⟨⟨h0, h1⟩, fun _ => trivial⟩⟩, rfl, trivial⟩⟩)



noncomputable def buildF (g : Int → Int → Int) (n : Int) : List (List Int) := (List.range n.toNat).map fun i : Nat => (List.range n.toNat).map fun j : Nat => g i j
noncomputable def rowsF (g : Int → Int → Int) (n i : Int) : List (List Int) := (buildF g n).take i.toNat ++ List.replicate (n.toNat - i.toNat) []
noncomputable def rowF (g : Int → Int → Int) (n i j : Int) : List Int := ((List.range n.toNat).map fun j : Nat => g i j).take j.toNat ++ List.replicate (n.toNat - j.toNat) 0
noncomputable def preBuild (n : Int) (preT : Int → Int → Prop) : Prop := 0 ≤ n ∧ n ≤ 1000000 ∧ ∀ i j, 0 ≤ i → i < n → 0 ≤ j → j < n → preT i j
noncomputable def within (k n : Int) : Prop := 0 ≤ k ∧ k < n

noncomputable def buildA (n : Int) (g : Int → Int → Int) : Ann := ⟨fun id s => match id with
  | 3 => some { α := Int, inv := fun k => upto k n, st := fun k => putM (put s [(11, .dat I k), (5, .buf 0 (D.nat n))]) 0 (.buf 23 R (rowsF g n k) []), μ := fun k => D.nat (D.sub n k) }
  | 7 => match s.sig.T 6 with
    | .dat (.int .i64) i => some { α := Int, inv := fun k => upto k n, st := fun k => putM (put s [(20, .dat I k)]) 1 (.buf 3 I (rowF g n i k) []), μ := fun k => D.nat (D.sub n k) }
    | _ => none
  | _ => none, fun _ _ => none, fun _ _ => none⟩

set_option maxRecDepth 100000 in
theorem vc_build (n : Int) (preT : Int → Int → Prop) (g : Int → Int → Int) (hvc :
 let c1 := D.rep n (0 : Int); true = true ∧ (preBuild n preT → D.ile (0 : Int) n ∧ D.ile (D.mul (D.ofN (24)) n) (281474976710656 : Int) ∧ D.ile n
  (9223372036854775807 : Int) ∧ (∃ x, upto x n ∧ n = n ∧ AV.clo2 (Ty.int IntKind.i64) (Ty.int IntKind.i64) (Ty.int IntKind.i64) preT g = AV.clo2 (Ty.int
  IntKind.i64) (Ty.int IntKind.i64) (Ty.int IntKind.i64) preT g ∧ Value.slice none (0) (0) = Value.slice none (0) (0) ∧ D.nat n = D.nat n ∧ n = n ∧ D.nat n =
  D.nat n ∧ n = n ∧ (0 : Int) = x ∧ D.rep n (D.nil Int) = rowsF g n x ∧ True) ∧ ∀ (x : Int),
 let c2 := D.len (rowsF g n x);
 let c3 := D.add x (1 : Int); upto x n → (D.lt x n = true → D.ile (0 : Int) n ∧ D.ile (D.mul (D.ofN (8)) n) (281474976710656 : Int) ∧ D.ile n
  (9223372036854775807 : Int) ∧ c2 = D.nat n ∧ D.ile (0 : Int) x ∧ D.ilt x (D.ofN c2) ∧ c2 = D.nat n ∧ D.len c1 = D.nat n ∧ (∃ x_3, upto x_3 n ∧ n = n ∧ AV.clo2
  (Ty.int IntKind.i64) (Ty.int IntKind.i64) (Ty.int IntKind.i64) preT g = AV.clo2 (Ty.int IntKind.i64) (Ty.int IntKind.i64) (Ty.int IntKind.i64) preT g ∧
  Value.slice none (0) (0) = Value.slice none (0) (0) ∧ D.nat n = D.nat n ∧ x = x ∧ n = n ∧ D.nat n = D.nat n ∧ n = n ∧ x = x ∧ D.lt x n = D.lt x n ∧ x = x ∧
  D.nat n = D.nat n ∧ x = x ∧ n = n ∧ D.nat n = D.nat n ∧ D.nat n = D.nat n ∧ D.nat x = D.nat x ∧ 0 = 0 ∧ n = n ∧ (0 : Int) = x_3 ∧ rowsF g n x = rowsF g n x ∧
  D.nat x = D.nat x ∧ D.nat n = D.nat n ∧ c1 = rowF g n x x_3 ∧ True) ∧ ∀ (x_3 : Int),
 let c4 := rowF g n x x_3;
 let c5 := D.len c4;
 let c6 := D.add x_3 (1 : Int); upto x_3 n → (D.lt x_3 n = true → c2 = D.nat n ∧ D.ile (0 : Int) x ∧ D.ilt x (D.ofN c2) ∧ c2 = D.nat n ∧ D.nat x = D.nat x ∧ preT
  x x_3 ∧ c5 = D.nat n ∧ D.ile (0 : Int) x_3 ∧ D.ilt x_3 (D.ofN c5) ∧ c5 = D.nat n ∧ inR IntKind.i64 c6 ∧ ∃ y, upto y n ∧ (n = n ∧ AV.clo2 (Ty.int IntKind.i64)
  (Ty.int IntKind.i64) (Ty.int IntKind.i64) preT g = AV.clo2 (Ty.int IntKind.i64) (Ty.int IntKind.i64) (Ty.int IntKind.i64) preT g ∧ Value.slice none (0) (0) =
  Value.slice none (0) (0) ∧ D.nat n = D.nat n ∧ x = x ∧ n = n ∧ D.nat n = D.nat n ∧ n = n ∧ x = x ∧ D.lt x n = D.lt x n ∧ x = x ∧ D.nat n = D.nat n ∧ x = x ∧ n
  = n ∧ D.nat n = D.nat n ∧ D.nat n = D.nat n ∧ D.nat x = D.nat x ∧ 0 = 0 ∧ n = n ∧ c6 = y ∧ rowsF g n x = rowsF g n x ∧ D.nat x = D.nat x ∧ D.nat n = D.nat n ∧
  D.set c4 (D.nat x_3) (g x x_3) = rowF g n x y ∧ True) ∧ D.nlt (D.nat (D.sub n y)) (D.nat (D.sub n x_3))) ∧ (D.lt x_3 n = false → inR IntKind.i64 c3 ∧ ∃ y, upto
  y n ∧ (n = n ∧ AV.clo2 (Ty.int IntKind.i64) (Ty.int IntKind.i64) (Ty.int IntKind.i64) preT g = AV.clo2 (Ty.int IntKind.i64) (Ty.int IntKind.i64) (Ty.int
  IntKind.i64) preT g ∧ Value.slice none (0) (0) = Value.slice none (0) (0) ∧ D.nat n = D.nat n ∧ n = n ∧ D.nat n = D.nat n ∧ n = n ∧ c3 = y ∧ c5 = D.nat n ∧
  D.set (rowsF g n x) (D.nat x) c4 = rowsF g n y ∧ True) ∧ D.nlt (D.nat (D.sub n y)) (D.nat (D.sub n x)))) ∧ (D.lt x n = false → c2 = D.nat n ∧ rowsF g n x =
  buildF g n ∧ True))) :
    evF c0 (buildA n g) 32 [.dat I n, .clo2 I I I preT g] [] ⟨preBuild n preT, .dat M (buildF g n), []⟩ := of_eq (by kernel_rfl) hvc

theorem fill_set {α : Type} (xs : List α) (d v : α) (k : Nat) (hk : xs[k]? = some v) : (xs.take k ++ List.replicate (xs.length - k) d).set k v = xs.take (k + 1) ++ List.replicate (xs.length - (k + 1)) d := by
  obtain ⟨h, e⟩ := List.getElem?_eq_some_iff.1 hk
  have e2 : xs.length - k = (xs.length - (k + 1)) + 1 := by omega
  rw [e2, List.replicate_succ, List.set_append_right _ _ (by simp; omega)]
  simp [List.take_add_one, hk, Nat.min_eq_left (Nat.le_of_lt h)]
theorem buildF_length (g : Int → Int → Int) (n : Int) : (buildF g n).length = n.toNat := by simp [buildF]
theorem rowsF_len (g : Int → Int → Int) (n x : Int) (h : upto x n) : (rowsF g n x).length = n.toNat := by
  have := h.1; have := h.2
  simp only [rowsF, List.length_append, List.length_take, List.length_replicate, buildF_length]; omega
theorem rowF_len (g : Int → Int → Int) (n i x : Int) (h : upto x n) : (rowF g n i x).length = n.toNat := by
  have := h.1; have := h.2
  simp only [rowF, List.length_append, List.length_take, List.length_replicate, List.length_map, List.length_range]; omega
theorem rowsF_zero (g : Int → Int → Int) (n : Int) : rowsF g n 0 = List.replicate n.toNat [] := by simp [rowsF]
theorem rowF_zero (g : Int → Int → Int) (n i : Int) : rowF g n i 0 = List.replicate n.toNat 0 := by simp [rowF]
theorem rowF_succ (g : Int → Int → Int) (n i j : Int) (h0 : 0 ≤ j) (h1 : j < n) : (rowF g n i j).set j.toNat (g i j) = rowF g n i (j + 1) := by
  have e : (j + 1).toNat = j.toNat + 1 := by omega
  have := fill_set ((List.range n.toNat).map fun j : Nat => g i j) 0 (g i j) j.toNat (by
    rw [List.getElem?_map, List.getElem?_range (by omega)]; simp [Int.toNat_of_nonneg h0])
  simp only [List.length_map, List.length_range] at this
  unfold rowF; rw [e]; exact this
theorem rowF_end (g : Int → Int → Int) (n i j : Int) (h : upto j n) (h1 : ¬ j < n) : rowF g n i j = (List.range n.toNat).map fun j : Nat => g i j := by
  have := h.1; have := h.2
  have e : j.toNat = n.toNat := by omega
  unfold rowF
  rw [e, List.take_of_length_le (by simp)]; simp
theorem rowsF_succ (g : Int → Int → Int) (n i j : Int) (h0 : 0 ≤ i) (h1 : i < n) (h : upto j n) (h2 : ¬ j < n) : (rowsF g n i).set i.toNat (rowF g n i j) = rowsF g n (i + 1) := by
  have e : (i + 1).toNat = i.toNat + 1 := by omega
  rw [rowF_end g n i j h h2]
  have := fill_set (buildF g n) [] ((List.range n.toNat).map fun j : Nat => g i j) i.toNat (by
    unfold buildF
    rw [List.getElem?_map, List.getElem?_range (by omega)]; simp [Int.toNat_of_nonneg h0])
  rw [buildF_length] at this
  unfold rowsF; rw [e]; exact this
theorem rowsF_end (g : Int → Int → Int) (n i : Int) (h : upto i n) (h1 : ¬ i < n) : rowsF g n i = buildF g n := by
  have := h.1; have := h.2
  have e : i.toNat = n.toNat := by omega
  unfold rowsF
  rw [e, List.take_of_length_le (by rw [buildF_length]; exact Nat.le_refl _)]; simp

theorem s_build (n : Int) (preT : Int → Int → Prop) (g : Int → Int → Int) : SoundC Try.prog G0 32 [.dat I n, .clo2 I I I preT g] [] ⟨preBuild n preT, .dat M (buildF g n), []⟩ := by
  refine sound_of_ev (c := c0) KS0 KI0s hm (vc_build n preT g ⟨rfl, fun hp => ?_⟩)
  obtain ⟨p1, p2, p3⟩ := hp
  refine ⟨p1, by simp only [D.ile, D.mul, D.ofN]; omega, by simp only [D.ile]; omega, ⟨0, ⟨by omega, .inr rfl⟩, ?_⟩, fun x hx => ⟨fun hlt => ?_, fun hge => ?_⟩⟩
  · simp [rowsF_zero]
  · have hlt : x < n := by simpa using hlt
    have h0 := hx.1
    have hl := rowsF_len g n x hx
    refine ⟨p1, by simp only [D.ile, D.mul, D.ofN]; omega, by simp only [D.ile]; omega, hl, h0, by simp only [D.ilt, D.ofN, D.len]; omega, hl, by simp, ⟨0, ⟨by omega, .inr rfl⟩, ?_⟩, fun y hy => ⟨fun hlt2 => ?_, fun hge => ?_⟩⟩
    · simp [rowF_zero]
    · have hlt2 : y < n := by simpa using hlt2
      have h2 := hy.1
      have hl2 := rowF_len g n x y hy
      refine ⟨hl, h0, by simp only [D.ilt, D.ofN, D.len]; omega, hl, rfl, p3 x y h0 hlt h2 hlt2, hl2, h2, by simp only [D.ilt, D.ofN, D.len]; omega, hl2, by simp only [inR, D.add]; omega, y + 1, ⟨by omega, .inl (by omega)⟩, ?_, ?_⟩
      · simp [rowF_succ g n x y h2 hlt2]
      · simp only [D.nlt, D.nat, D.sub]; omega
    · have hge : ¬ y < n := by simpa using hge
      refine ⟨by simp only [inR, D.add]; omega, x + 1, ⟨by omega, .inl (by omega)⟩, ?_, ?_⟩
      · simp [rowsF_succ g n x y h0 hlt hy hge, rowF_len g n x y hy]
      · simp only [D.nlt, D.nat, D.sub]; omega
  · have hge : ¬ x < n := by simpa using hge
    exact ⟨rowsF_len g n x hx, rowsF_end g n x hx hge, trivial⟩


noncomputable def rowBad (m : List (List Int)) (row : List Int) : Bool := decide ((row.length : Int) ≠ m.length) || wrongF row
noncomputable def validF (m : List (List Int)) : Bool := !decide ((m.length : Int) > 40) && !m.any (rowBad m)
noncomputable def okTo (m : List (List Int)) (k : Int) : Prop := 0 ≤ k ∧ k ≤ m.length ∧ m.length ≤ 40 ∧ (m.take k.toNat).any (rowBad m) = false
noncomputable def alikeF (a b : List (List Int)) : Bool := bif validF a then bif validF b then decide ((a.length : Int) = b.length) else false else false
noncomputable def idx2 (i j : Int) (a : List (List Int)) : Prop := 0 ≤ i ∧ i < (a.length : Int) ∧ idx j (a.getD i.toNat [])
noncomputable def at2 (a : List (List Int)) (i j : Int) : Int := (a.getD i.toNat []).getD j.toNat 0
noncomputable def plus2 (a b : List (List Int)) (i j : Int) : Int := plusF (at2 a i j) (at2 b i j)
noncomputable def sumF (a b : List (List Int)) : List (List Int) := bif alikeF a b then buildF (plus2 a b) a.length else []
noncomputable def term (a : List (List Int)) (i : Int) (b : List (List Int)) (j k : Int) : Int := timesF (at2 a i k) (at2 b k j)
noncomputable def termP (a : List (List Int)) (i : Int) (b : List (List Int)) (j k : Int) : Prop := idx2 i k a ∧ idx2 k j b ∧ timesP (at2 a i k) (at2 b k j)
noncomputable def dotF (a b : List (List Int)) (i j : Int) : Int := foldI plusF (term a i b j) (-1099511627776) a.length
noncomputable def dotP (a b : List (List Int)) (i j : Int) : Prop := preFold a.length (fun _ _ => True) (termP a i b j) (term a i b j)
noncomputable def prodF (a b : List (List Int)) : List (List Int) := bif alikeF a b then buildF (dotF a b) a.length else []
noncomputable def diag (m : List (List Int)) (k : Int) : Bool := decide (at2 m k k > 0)
noncomputable def cyclicF (m : List (List Int)) : Bool := foldB eitherF (diag m) false m.length
noncomputable def cycP (m : List (List Int)) : Prop := preFoldB m.length (fun _ _ => True) (fun k => idx2 k k m) (diag m)
noncomputable def star1 (m : List (List Int)) (i j : Int) : Int := bif decide (i = j) then plusF 0 (at2 m i j) else plusF (-1099511627776) (at2 m i j)
noncomputable def star2 (m : List (List Int)) (k i j : Int) : Int := plusF (at2 m i j) (timesF (at2 m i k) (at2 m k j))
noncomputable def star2P (m : List (List Int)) (k i j : Int) : Prop := idx2 i j m ∧ idx2 i k m ∧ idx2 k j m ∧ timesP (at2 m i k) (at2 m k j)
noncomputable def aterm (m : List (List Int)) (i : Int) (v : List Int) (k : Int) : Int := timesF (at2 m i k) (at1 v k)
noncomputable def atermP (m : List (List Int)) (i : Int) (v : List Int) (k : Int) : Prop := idx2 i k m ∧ idx k v ∧ timesP (at2 m i k) (at1 v k)

noncomputable def K4 : Kt := fun f args m => match f, args, m with
  | 38, [.dat (.sl (.int .i64)) row], [] => some ⟨lenOk row, .dat .bool (wrongF row), []⟩
  | _, _, _ => K3 f args m
noncomputable def c4 : Cfg := Sv.mkc K4

noncomputable def validA (m : List (List Int)) : Ann := ⟨fun id s => match id with
  | 4 => some { α := Int, inv := fun k => okTo m k, st := fun k => put s [(10, .dat I k)], μ := fun k => D.nat (D.sub (D.ilen m) k) }
  | _ => none, fun _ _ => none, fun _ _ => none⟩

set_option maxRecDepth 100000 in
theorem vc_valid (m : List (List Int)) (hvc :
 let c1 := D.gt (D.ilen m) (40 : Int); true = true ∧ (True → (c1 = true → false = validF m ∧ True) ∧ (c1 = false → (∃ x, okTo m x ∧ m = m ∧ m = m ∧ D.ilen m =
  D.ilen m ∧ c1 = c1 ∧ m = m ∧ D.ilen m = D.ilen m ∧ (0 : Int) = x ∧ True) ∧ ∀ (x : Int),
 let c2 := D.lt x (D.ilen m);
 let c3 := D.get m (D.nat x) (D.nil Int);
 let c4 := D.ne (D.ilen c3) (D.ilen m);
 let c5 := D.not c4;
 let c6 := D.cnd c4 true (wrongF c3);
 let c7 := D.add x (1 : Int); okTo m x → (c2 = true → D.ile (0 : Int) x ∧ D.ilt x (D.ilen m) ∧ (c5 = true → c5 = true → c5 = true) ∧ (c5 = true → lenOk c3) ∧
  (D.and true c5 = true → c5 = true) ∧ (c6 = true → false = validF m ∧ True) ∧ (c6 = false → inR IntKind.i64 c7 ∧ ∃ y, okTo m y ∧ (m = m ∧ m = m ∧ D.ilen m =
  D.ilen m ∧ c1 = c1 ∧ m = m ∧ D.ilen m = D.ilen m ∧ c7 = y ∧ True) ∧ D.nlt (D.nat (D.sub (D.ilen m) y)) (D.nat (D.sub (D.ilen m) x)))) ∧ (c2 = false → true =
  validF m ∧ True)))) :
    evF c4 (validA m) 17 [.dat M m] [] ⟨True, .dat .bool (validF m), []⟩ := of_eq (by kernel_rfl) hvc

set_option maxRecDepth 100000 in
theorem vc_diag (k : Int) (m : List (List Int)) (hvc :
 let c1 := D.get m (D.nat k) (D.nil Int); true = true ∧ (idx2 k k m → D.ile (0 : Int) k ∧ D.ilt k (D.ilen m) ∧ D.ile (0 : Int) k ∧ D.ilt k (D.ilen c1) ∧ D.gt
  (D.get c1 (D.nat k) (0 : Int)) (0 : Int) = diag m k ∧ True)) :
    evF c4 noAnn 50 [.dat I k, .ip M m] [] ⟨idx2 k k m, .dat .bool (diag m k), []⟩ := of_eq (by kernel_rfl) hvc

set_option maxRecDepth 100000 in
theorem vc_star1 (i j : Int) (m : List (List Int)) (hvc :
 let c1 := D.get m (D.nat i) (D.nil Int);
 let c2 := D.get c1 (D.nat j) (0 : Int); true = true ∧ (idx2 i j m → (D.eq i j = true → D.ile (0 : Int) i ∧ D.ilt i (D.ilen m) ∧ D.ile (0 : Int) j ∧ D.ilt j
  (D.ilen c1) ∧ True ∧ plusF (0 : Int) c2 = star1 m i j ∧ True) ∧ (D.eq i j = false → D.ile (0 : Int) i ∧ D.ilt i (D.ilen m) ∧ D.ile (0 : Int) j ∧ D.ilt j
  (D.ilen c1) ∧ True ∧ plusF (-1099511627776 : Int) c2 = star1 m i j ∧ True))) :
    evF c4 noAnn 33 [.dat I i, .dat I j, .ip M m] [] ⟨idx2 i j m, .dat I (star1 m i j), []⟩ := of_eq (by kernel_rfl) hvc

set_option maxRecDepth 100000 in
theorem vc_star2 (k i j : Int) (m : List (List Int)) (hvc :
 let c1 := D.get m (D.nat i) (D.nil Int);
 let c2 := D.ilen c1;
 let c3 := D.get m (D.nat k) (D.nil Int);
 let c4 := D.get c1 (D.nat k) (0 : Int);
 let c5 := D.get c3 (D.nat j) (0 : Int); true = true ∧ (star2P m k i j → D.ile (0 : Int) i ∧ D.ilt i (D.ilen m) ∧ D.ile (0 : Int) j ∧ D.ilt j c2 ∧ D.ile (0 :
  Int) i ∧ D.ilt i (D.ilen m) ∧ D.ile (0 : Int) k ∧ D.ilt k c2 ∧ D.ile (0 : Int) k ∧ D.ilt k (D.ilen m) ∧ D.ile (0 : Int) j ∧ D.ilt j (D.ilen c3) ∧ timesP c4 c5
  ∧ True ∧ plusF (D.get c1 (D.nat j) (0 : Int)) (timesF c4 c5) = star2 m k i j ∧ True)) :
    evF c4 noAnn 36 [.dat I i, .dat I j, .ip M m, .ip I k] [] ⟨star2P m k i j, .dat I (star2 m k i j), []⟩ := of_eq (by kernel_rfl) hvc

theorem KS4 : KSound Try.prog G0 K4 := by
  intro f args m c h
  unfold K4 at h
  split at h
  · cases h; exact s_wrong _
  · exact KS3 _ _ _ _ h

theorem okTo_zero {m : List (List Int)} (h : ¬ (m.length : Int) > 40) : okTo m 0 := ⟨by omega, by omega, by omega, by simp⟩
theorem okTo_row {m : List (List Int)} {k : Int} (h : okTo m k) (hk : k < m.length) : m.getD k.toNat [] ∈ m ∧ m.take (k + 1).toNat = m.take k.toNat ++ [m.getD k.toNat []] := by
  have h0 := h.1
  have hlt : k.toNat < m.length := by omega
  have e : (k + 1).toNat = k.toNat + 1 := by omega
  rw [List.getD_eq_getElem?_getD, List.getElem?_eq_getElem hlt, e]
  exact ⟨List.getElem_mem hlt, by rw [List.take_add_one, List.getElem?_eq_getElem hlt]; rfl⟩
theorem okTo_succ {m : List (List Int)} {k : Int} (h : okTo m k) (hk : k < m.length) (hr : rowBad m (m.getD k.toNat []) = false) : okTo m (k + 1) := by
  obtain ⟨h0, h1, h2, h3⟩ := h
  refine ⟨by omega, by omega, h2, ?_⟩
  rw [(okTo_row ⟨h0, h1, h2, h3⟩ hk).2, List.any_append, h3, List.any_cons, hr]; rfl
theorem validF_bad {m : List (List Int)} {k : Int} (h : okTo m k) (hk : k < m.length) (hr : rowBad m (m.getD k.toNat []) = true) : validF m = false := by
  unfold validF
  have : m.any (rowBad m) = true := List.any_eq_true.2 ⟨_, (okTo_row h hk).1, hr⟩
  rw [this]; simp
theorem validF_end {m : List (List Int)} {k : Int} (h : okTo m k) (hk : ¬ k < m.length) : validF m = true := by
  obtain ⟨h0, h1, h2, h3⟩ := h
  unfold validF
  have e : k.toNat = m.length := by omega
  rw [e, List.take_length] at h3
  rw [h3]
  have : ¬ ((m.length : Int) > 40) := by omega
  simp only [this, decide_false]; rfl
theorem cnd_rowBad (m : List (List Int)) (r : List Int) : D.cnd (D.ne (D.ilen r) (D.ilen m)) true (wrongF r) = rowBad m r := by
  unfold rowBad D.cnd D.ne D.ilen
  by_cases h : (r.length : Int) = m.length <;> simp [h]

theorem s_valid (m : List (List Int)) : SoundC Try.prog G0 17 [.dat M m] [] ⟨True, .dat .bool (validF m), []⟩ := by
  refine sound_of_ev (c := c4) KS4 KI0s hm (vc_valid m ⟨rfl, fun _ => ⟨fun h => ⟨?_, trivial⟩, fun h => ⟨⟨0, okTo_zero (by simpa using h), by simp⟩, fun x hx => ⟨fun hlt => ?_, fun hge => ?_⟩⟩⟩⟩)
  · have : (m.length : Int) > 40 := by simpa using h
    unfold validF
    simp only [this, decide_true]; rfl
  · have hlt : x < m.length := by simpa using hlt
    refine ⟨hx.1, hlt, fun _ h => h, fun hne => ?_, fun h => ?_, fun hb => ⟨?_, trivial⟩, fun hb => ⟨?_, x + 1, ?_, by simp, ?_⟩⟩
    · have : ((m.getD x.toNat []).length : Int) = m.length := by simpa using hne
      have := hx.2.2.1
      show ((m.getD x.toNat []).length : Int) ≤ _
      omega
    · simpa using h
    · rw [cnd_rowBad m] at hb; exact (validF_bad hx hlt hb).symm
    · have := hx.2.2.1; have := hx.1; simp only [inR, D.add]; omega
    · rw [cnd_rowBad m] at hb; exact okTo_succ hx hlt hb
    · have := hx.1; simp only [D.nlt, D.nat, D.sub, D.ilen]; omega
  · have hge : ¬ x < m.length := by simpa using hge
    exact ⟨(validF_end hx hge).symm, trivial⟩

theorem s_diag (k : Int) (m : List (List Int)) : SoundC Try.prog G0 50 [.dat I k, .ip M m] [] ⟨idx2 k k m, .dat .bool (diag m k), []⟩ :=
  sound_of_ev (c := c4) KS4 KI0s hm (vc_diag k m ⟨rfl, fun h1 => ⟨h1.1, h1.2.1, h1.2.2.1, h1.2.2.2, rfl, trivial⟩⟩)
theorem s_star1 (i j : Int) (m : List (List Int)) : SoundC Try.prog G0 33 [.dat I i, .dat I j, .ip M m] [] ⟨idx2 i j m, .dat I (star1 m i j), []⟩ :=
  sound_of_ev (c := c4) KS4 KI0s hm (vc_star1 i j m ⟨rfl, fun h1 => ⟨fun e => ⟨h1.1, h1.2.1, h1.2.2.1, h1.2.2.2, trivial, by
      have e : i = j := by simpa using e
      simp [star1, e, at2], trivial⟩,
    fun e => ⟨h1.1, h1.2.1, h1.2.2.1, h1.2.2.2, trivial, by
      have e : ¬ i = j := by simpa using e
      simp [star1, e, at2], trivial⟩⟩⟩)
theorem s_star2 (k i j : Int) (m : List (List Int)) : SoundC Try.prog G0 36 [.dat I i, .dat I j, .ip M m, .ip I k] [] ⟨star2P m k i j, .dat I (star2 m k i j), []⟩ :=
  sound_of_ev (c := c4) KS4 KI0s hm (vc_star2 k i j m ⟨rfl, fun ⟨h1, h2, h3, h4⟩ => ⟨h1.1, h1.2.1, h1.2.2.1, h1.2.2.2, h2.1, h2.2.1, h2.2.2.1, h2.2.2.2, h3.1, h3.2.1, h3.2.2.1, h3.2.2.2, h4, trivial, rfl, trivial⟩⟩)
theorem s_build_fn (n : Int) {f : FuncId} {caps : List AV} (preT : Int → Int → Prop) (g : Int → Int → Int) (hg : goes Try.prog f = true) (hn : AV.namesL caps = []) (h : ∀ i j, SoundC Try.prog G0 f (.dat I i :: .dat I j :: caps) [] ⟨preT i j, .dat I (g i j), []⟩) :
    SoundC Try.prog G0 32 [.dat I n, .fn f caps] [] ⟨preBuild n preT, .dat M (buildF g n), []⟩ :=
  (s_build n preT g).args fun _ _ hG ⟨_, _, e1, h1, _, _, e2, h2, h3⟩ => ⟨_, _, e1, h1, _, _, e2, clo2_of_fn hg hn h hG h2, h3⟩

noncomputable def K5 : Kt := fun f args m => match f, args, m with
  | 17, [.dat (.sl (.sl (.int .i64))) m], [] => some ⟨True, .dat .bool (validF m), []⟩
  | 48, [.dat (.int .i64) n, .dat .bool z, .fn 49 [], .fn 50 [.ip (.sl (.sl (.int .i64))) m]], [] => some ⟨preFoldB n (fun _ _ => True) (fun k => idx2 k k m) (diag m), .dat .bool (foldB eitherF (diag m) z n), []⟩
  | 32, [.dat (.int .i64) n, .fn 33 [.ip (.sl (.sl (.int .i64))) m]], [] => some ⟨preBuild n (fun i j => idx2 i j m), .dat M (buildF (star1 m) n), []⟩
  | 32, [.dat (.int .i64) n, .fn 36 [.ip (.sl (.sl (.int .i64))) m, .ip (.int .i64) k]], [] => some ⟨preBuild n (star2P m k), .dat M (buildF (star2 m k) n), []⟩
  | _, _, _ => K4 f args m
noncomputable def c5 : Cfg := Sv.mkc K5

set_option maxRecDepth 100000 in
theorem vc_cyclic (m : List (List Int)) (hvc :
  true = true ∧ (cycP m → preFoldB (D.ilen m) (fun x x_1 ↦ True) (fun k ↦ idx2 k k m) (diag m) ∧ foldB eitherF (diag m) false (D.ilen m) = cyclicF m ∧
  True)) :
    evF c5 noAnn 35 [.dat M m] [] ⟨cycP m, .dat .bool (cyclicF m), []⟩ := of_eq (by kernel_rfl) hvc

theorem KS5 : KSound Try.prog G0 K5 := by
  intro f args m c h
  unfold K5 at h
  split at h
  · cases h; exact s_valid _
  · cases h; exact s_foldB_fn _ _ _ _ (by kernel_rfl) rfl (fun k => s_diag k _)
  · cases h; exact s_build_fn _ _ _ (by kernel_rfl) rfl (fun i j => s_star1 i j _)
  · cases h; exact s_build_fn _ _ _ (by kernel_rfl) rfl (fun i j => s_star2 _ i j _)
  · exact KS4 _ _ _ _ h
theorem s_cyclic (m : List (List Int)) : SoundC Try.prog G0 35 [.dat M m] [] ⟨cycP m, .dat .bool (cyclicF m), []⟩ :=
  sound_of_ev (c := c5) KS5 KI0s hm (vc_cyclic m ⟨rfl, fun h => ⟨h, rfl, trivial⟩⟩)



noncomputable def starN (m : List (List Int)) : Nat → List (List Int)
  | 0 => buildF (star1 m) m.length
  | k + 1 => buildF (star2 (starN m k) k) m.length
noncomputable def starK (m : List (List Int)) (k : Int) : List (List Int) := starN m k.toNat
noncomputable def starBad (m : List (List Int)) : Bool := (List.range (m.length + 1)).any fun k => cyclicF (starN m k)
noncomputable def starF (m : List (List Int)) : List (List Int) × Int := bif validF m then bif starBad m then ([], 120) else (starN m m.length, 0) else ([], 1)
noncomputable def starS (m : List (List Int)) : List (List Int) := (starF m).1
noncomputable def starE (m : List (List Int)) : Int := (starF m).2
noncomputable def starP (m : List (List Int)) : Prop := m.length ≤ 20
noncomputable def starTo (m : List (List Int)) (k : Int) : Prop := 0 ≤ k ∧ k ≤ m.length ∧ validF m = true ∧ ∀ j : Nat, (j : Int) ≤ k → cyclicF (starN m j) = false
noncomputable def applyF (m : List (List Int)) (v : List Int) : List Int := bif validF m then bif decide ((v.length : Int) = m.length) then bif wrongF v then [] else (List.range m.length).map fun i : Nat => foldI plusF (aterm m i v) (-1099511627776) v.length else [] else []
noncomputable def applyTo (m : List (List Int)) (v : List Int) (k : Int) : List Int := ((List.range m.length).map fun i : Nat => foldI plusF (aterm m i v) (-1099511627776) v.length).take k.toNat ++ List.replicate (m.length - k.toNat) 0

noncomputable def K6 : Kt := fun f args m => match f, args, m with
  | 35, [.dat (.sl (.sl (.int .i64))) m], [] => some ⟨cycP m, .dat .bool (cyclicF m), []⟩
  | _, _, _ => K5 f args m
noncomputable def c6 : Cfg := Sv.mkc K6

noncomputable def starA (m : List (List Int)) : Ann := ⟨fun id s => match id with
  | 8 => some { α := Int, inv := fun k => starTo m k, st := fun k => put s [(19, .dat I k), (5, .dat M (starK m k))], μ := fun k => D.nat (D.sub (D.ilen m) k) }
  | _ => none, fun id s => match id with
  | 11 => some (frz [0, 1] s)
  | _ => none, fun _ _ => none⟩
noncomputable def applyA (m : List (List Int)) (v : List Int) : Ann := ⟨fun id s => match id with
  | 5 => some { α := Int, inv := fun k => upto k (D.ilen m), st := fun k => putM (put s [(26, .dat I k)]) 0 (.buf 3 I (applyTo m v k) []), μ := fun k => D.nat (D.sub (D.ilen m) k) }
  | _ => none, fun id s => match id with
  | 7 => some (frz [1] s)
  | _ => none, fun _ _ => none⟩

set_option maxRecDepth 100000 in
theorem vc_star (m : List (List Int)) (hvc :
 let c1 := buildF (star1 m) (D.ilen m);
 let c2 := cyclicF c1; true = true ∧ (starP m → True ∧ (D.not (validF m) = true → starS m = D.nil (List Int) ∧ (1 : Int) = starE m ∧ True) ∧ (D.not (validF m) =
  false → (preBuild (D.ilen m) fun i j ↦ idx2 i j m) ∧ cycP c1 ∧ (c2 = true → starS m = D.nil (List Int) ∧ (120 : Int) = starE m ∧ True) ∧ (c2 = false → (∃ x,
  starTo m x ∧ m = m ∧ m = m ∧ D.ilen m = D.ilen m ∧ c1 = starK m x ∧ m = m ∧ validF m = validF m ∧ D.not (validF m) = D.not (validF m) ∧ m = m ∧ D.ilen m =
  D.ilen m ∧ D.ilen m = D.ilen m ∧ m = m ∧ c1 = c1 ∧ c1 = c1 ∧ c2 = c2 ∧ D.ilen m = D.ilen m ∧ (0 : Int) = x ∧ True) ∧ ∀ (x : Int),
 let c3 := D.lt x (D.ilen m);
 let c4 := buildF (star2 (starK m x) x) (D.ilen m);
 let c5 := cyclicF c4;
 let c6 := D.add x (1 : Int); starTo m x → (c3 = true → 1 = 1 ∧ 0 = 0 ∧ 1 = 1 ∧ 0 = 0 ∧ m = m ∧ m = m ∧ D.ilen m = D.ilen m ∧ starK m x = starK m x ∧ 1 = 1 ∧ 0 =
  0 ∧ x = x ∧ 1 = 1 ∧ 0 = 0 ∧ starK m x = starK m x ∧ m = m ∧ validF m = validF m ∧ D.not (validF m) = D.not (validF m) ∧ m = m ∧ D.ilen m = D.ilen m ∧ D.ilen m
  = D.ilen m ∧ m = m ∧ c1 = c1 ∧ c1 = c1 ∧ c2 = c2 ∧ D.ilen m = D.ilen m ∧ x = x ∧ c3 = c3 ∧ x = x ∧ starK m x = starK m x ∧ preBuild (D.ilen m) (star2P (starK m
  x) x) ∧ cycP c4 ∧ (c5 = true → starS m = D.nil (List Int) ∧ (120 : Int) = starE m ∧ True) ∧ (c5 = false → inR IntKind.i64 c6 ∧ ∃ y, starTo m y ∧ (m = m ∧ m = m
  ∧ D.ilen m = D.ilen m ∧ c4 = starK m y ∧ m = m ∧ validF m = validF m ∧ D.not (validF m) = D.not (validF m) ∧ m = m ∧ D.ilen m = D.ilen m ∧ D.ilen m = D.ilen m
  ∧ m = m ∧ c1 = c1 ∧ c1 = c1 ∧ c2 = c2 ∧ D.ilen m = D.ilen m ∧ c6 = y ∧ True) ∧ D.nlt (D.nat (D.sub (D.ilen m) y)) (D.nat (D.sub (D.ilen m) x)))) ∧ (c3 = false
  → starK m x = starS m ∧ (0 : Int) = starE m ∧ True))))) :
    evF c6 (starA m) 14 [.dat M m] [] ⟨starP m, .tup [.dat M (starS m), .dat I (starE m)], []⟩ := of_eq (by kernel_rfl) hvc

theorem foldN_either {g : Int → Bool} (n : Nat) : foldN eitherF g false n = false ↔ ∀ k : Nat, k < n → g k = false := by
  induction n with
  | zero => simp [foldN]
  | succ n ih =>
    simp only [foldN, eitherF, Bool.or_eq_false_iff, ih]
    constructor
    · rintro ⟨h1, h2⟩ k hk
      by_cases e : k = n
      · subst e; exact h2
      · exact h1 k (by omega)
    · exact fun h => ⟨fun k hk => h k (by omega), h n (by omega)⟩
theorem foldB_either {g : Int → Bool} {n : Int} : foldB eitherF g false n = false ↔ ∀ k : Int, 0 ≤ k → k < n → g k = false := by
  unfold foldB
  rw [foldN_either]
  constructor
  · intro h k h0 h1
    have := h k.toNat (by omega)
    rwa [Int.toNat_of_nonneg h0] at this
  · exact fun h k hk => h k (by omega) (by omega)
theorem wrongF_false {row : List Int} : wrongF row = false ↔ ∀ k : Int, 0 ≤ k → k < row.length → elemF (at1 row k) = true := by
  unfold wrongF
  rw [foldB_either]
  simp [notElem]

structure Sq (n : Nat) (m : List (List Int)) : Prop where
  len : m.length = n
  row : ∀ i : Int, 0 ≤ i → i < n → (m.getD i.toNat []).length = n

theorem Sq.idx2 {n : Nat} {m : List (List Int)} (h : Sq n m) {i j : Int} (h0 : 0 ≤ i) (h1 : i < n) (h2 : 0 ≤ j) (h3 : j < n) : idx2 i j m :=
  ⟨h0, by rw [h.len]; exact h1, h2, by rw [h.row i h0 h1]; exact h3⟩

theorem valid_sq {m : List (List Int)} (h : validF m = true) : Sq m.length m ∧ m.length ≤ 40 ∧ ∀ i j : Int, 0 ≤ i → i < m.length → 0 ≤ j → j < m.length → elemF (at2 m i j) = true := by
  unfold validF at h
  simp only [Bool.and_eq_true, Bool.not_eq_true', decide_eq_false_iff_not] at h
  obtain ⟨h1, h2⟩ := h
  have hrow : ∀ i : Int, 0 ≤ i → i < m.length → rowBad m (m.getD i.toNat []) = false := by
    intro i h0 hi
    have hlt : i.toNat < m.length := by omega
    rw [List.any_eq_false] at h2
    rw [List.getD_eq_getElem?_getD, List.getElem?_eq_getElem hlt]
    simpa using h2 _ (List.getElem_mem hlt)
  have hr2 : ∀ i : Int, 0 ≤ i → i < m.length → (m.getD i.toNat []).length = m.length ∧ wrongF (m.getD i.toNat []) = false := by
    intro i h0 hi
    have := hrow i h0 hi
    unfold rowBad at this
    simp only [Bool.or_eq_false_iff, decide_eq_false_iff_not, ne_eq, Decidable.not_not] at this
    exact ⟨by have := this.1; omega, this.2⟩
  refine ⟨⟨rfl, fun i h0 hi => (hr2 i h0 hi).1⟩, by omega, fun i j h0 hi h3 hj => ?_⟩
  obtain ⟨g1, g2⟩ := hr2 i h0 hi
  exact wrongF_false.1 g2 j h3 (by rw [g1]; exact hj)

theorem buildF_row (g : Int → Int → Int) (n : Nat) (i : Int) (h0 : 0 ≤ i) (hi : i < n) : (buildF g n).getD i.toNat [] = (List.range n).map fun j : Nat => g i j := by
  unfold buildF
  simp only [Int.toNat_natCast]
  rw [List.getD_eq_getElem?_getD, List.getElem?_map, List.getElem?_range (by omega)]
  simp [Int.toNat_of_nonneg h0]
theorem buildF_sq (g : Int → Int → Int) (n : Nat) : Sq n (buildF g n) := ⟨by simp [buildF], fun i h0 hi => by rw [buildF_row g n i h0 hi]; simp⟩
theorem buildF_at (g : Int → Int → Int) (n : Nat) (i j : Int) (h0 : 0 ≤ i) (hi : i < n) (h1 : 0 ≤ j) (hj : j < n) : at2 (buildF g n) i j = g i j := by
  unfold at2
  rw [buildF_row g n i h0 hi, List.getD_eq_getElem?_getD, List.getElem?_map, List.getElem?_range (by omega)]
  simp [Int.toNat_of_nonneg h1]

theorem elem_times {x y : Int} (hx : elemF x = true) (hy : elemF y = true) : timesP x y := by
  intro h1 h2
  simp only [elemF, h1, h2, Bool.false_or, Bool.and_eq_true, decide_eq_true_eq] at hx hy
  simp only [inR]; omega

theorem alike_iff {a b : List (List Int)} : alikeF a b = true ↔ validF a = true ∧ validF b = true ∧ a.length = b.length := by
  unfold alikeF
  cases h : validF a <;> cases h2 : validF b <;> simp
  omega

theorem KS6 : KSound Try.prog G0 K6 := by
  intro f args m c h
  unfold K6 at h
  split at h
  · cases h; exact s_cyclic _
  · exact KS5 _ _ _ _ h

theorem dot_ok {a b : List (List Int)} (h : alikeF a b = true) : preBuild a.length (dotP a b) := by
  obtain ⟨h1, h2, h3⟩ := alike_iff.1 h
  obtain ⟨sa, la, ea⟩ := valid_sq h1
  obtain ⟨sb, _, eb⟩ := valid_sq h2
  refine ⟨by omega, by omega, fun i j h0 hi h4 hj => ⟨by omega, fun k h5 hk => ⟨⟨sa.idx2 h0 hi h5 hk, sb.idx2 h5 (by omega) h4 (by omega), elem_times (ea i k h0 hi h5 hk) (eb k j h5 (by omega) h4 (by omega))⟩, fun _ => trivial⟩⟩⟩

theorem applyTo_len (m : List (List Int)) (v : List Int) (x : Int) (h : upto x m.length) : (applyTo m v x).length = m.length := by
  have := h.1; have := h.2
  simp only [applyTo, List.length_append, List.length_take, List.length_replicate, List.length_map, List.length_range]; omega
theorem applyTo_succ (m : List (List Int)) (v : List Int) (x : Int) (h0 : 0 ≤ x) (h1 : x < m.length) : (applyTo m v x).set x.toNat (foldI plusF (aterm m x v) (-1099511627776) v.length) = applyTo m v (x + 1) := by
  have e : (x + 1).toNat = x.toNat + 1 := by omega
  have := fill_set ((List.range m.length).map fun i : Nat => foldI plusF (aterm m i v) (-1099511627776) v.length) 0 (foldI plusF (aterm m x v) (-1099511627776) v.length) x.toNat (by
    rw [List.getElem?_map, List.getElem?_range (by omega)]; simp [Int.toNat_of_nonneg h0])
  simp only [List.length_map, List.length_range] at this
  unfold applyTo; rw [e]; exact this

theorem starN_sq (m : List (List Int)) (k : Nat) : Sq m.length (starN m k) := by
  cases k <;> exact buildF_sq _ _
noncomputable def bd (k : Nat) : Int := ((1099511627776 * 2 ^ k : Nat) : Int)
theorem bd_pos (k : Nat) : 1099511627776 ≤ bd k := by
  unfold bd
  have : 1 ≤ 2 ^ k := Nat.one_le_two_pow
  omega
theorem bd_succ (k : Nat) : bd (k + 1) = 2 * bd k := by
  unfold bd
  rw [Nat.pow_succ]; omega
theorem bd_top {k : Nat} (h : k ≤ 20) : bd k ≤ 1152921504606846976 := by
  unfold bd
  have := Nat.pow_le_pow_right (n := 2) (by omega) h
  omega
theorem plusF_bd {x y b : Int} (hb : 1099511627776 ≤ b) (hx : -b ≤ x ∧ x ≤ b) (hy : -b ≤ y ∧ y ≤ b) : -b ≤ plusF x y ∧ plusF x y ≤ b := by
  unfold plusF
  cases infF x && infF y
  · simp only [cond_false]; omega
  · simp only [cond_true]; omega
theorem timesF_bd {x y b : Int} (hb : 1099511627776 ≤ b) (hx : -b ≤ x ∧ x ≤ b) (hy : -b ≤ y ∧ y ≤ b) : -(2 * b) ≤ timesF x y ∧ timesF x y ≤ 2 * b := by
  unfold timesF
  cases infF x || infF y
  · simp only [cond_false]; omega
  · simp only [cond_true]; omega
theorem plus_low {c x : Int} (hc : -1099511627776 ≤ c ∧ c ≤ 0) (hx : elemF x = true) : -1099511627776 ≤ plusF c x ∧ plusF c x ≤ 1099511627776 := by
  unfold plusF
  cases h : infF x
  · simp only [elemF, h, Bool.false_or, Bool.and_eq_true, decide_eq_true_eq] at hx
    simp only [Bool.and_false, cond_false]; omega
  · simp only [infF, decide_eq_true_eq] at h
    cases infF c && true
    · simp only [cond_false]; omega
    · simp only [cond_true]; omega
theorem starN_bd {m : List (List Int)} (h : validF m = true) : ∀ (k : Nat), k ≤ m.length → ∀ i j : Int, 0 ≤ i → i < m.length → 0 ≤ j → j < m.length → -(bd k) ≤ at2 (starN m k) i j ∧ at2 (starN m k) i j ≤ bd k
  | 0, _, i, j, h0, hi, h1, hj => by
    have e := (valid_sq h).2.2 i j h0 hi h1 hj
    show -(bd 0) ≤ at2 (buildF (star1 m) m.length) i j ∧ at2 (buildF (star1 m) m.length) i j ≤ bd 0
    rw [buildF_at _ _ _ _ h0 hi h1 hj]
    have e0 : bd 0 = 1099511627776 := rfl
    rw [e0]
    unfold star1
    cases decide (i = j)
    · exact plus_low (c := -1099511627776) (by omega) e
    · exact plus_low (c := 0) (by omega) e
  | k + 1, hk, i, j, h0, hi, h1, hj => by
    show -(bd (k + 1)) ≤ at2 (buildF (star2 (starN m k) k) m.length) i j ∧ at2 (buildF (star2 (starN m k) k) m.length) i j ≤ bd (k + 1)
    rw [buildF_at _ _ _ _ h0 hi h1 hj, bd_succ]
    have hb := bd_pos k
    have g1 := starN_bd h k (by omega) i j h0 hi h1 hj
    have g2 := starN_bd h k (by omega) i k h0 hi (by omega) (by omega)
    have g3 := starN_bd h k (by omega) k j (by omega) (by omega) h1 hj
    exact plusF_bd (by omega) (by omega) (timesF_bd hb g2 g3)

theorem cyc_ok {n : Nat} {m : List (List Int)} (h : Sq n m) (hn : n ≤ 20) : cycP m :=
  ⟨by rw [h.len]; omega, fun k h0 hk => ⟨h.idx2 h0 (by rw [← h.len]; exact hk) h0 (by rw [← h.len]; exact hk), fun _ => trivial⟩⟩

theorem starBad_at {m : List (List Int)} (k : Nat) (hk : k ≤ m.length) (h : cyclicF (starN m k) = true) : starBad m = true :=
  List.any_eq_true.2 ⟨k, List.mem_range.2 (by omega), h⟩

theorem s_star (m : List (List Int)) : SoundC Try.prog G0 14 [.dat M m] [] ⟨starP m, .tup [.dat M (starS m), .dat I (starE m)], []⟩ := by
  refine sound_of_ev (c := c6) KS6 KI0s hm (vc_star m ⟨rfl, fun hp => ⟨trivial, fun h => ?_, fun h => ?_⟩⟩)
  · have h : validF m = false := by simpa using h
    simp [starS, starE, starF, h]
  · have h : validF m = true := by simpa using h
    unfold starP at hp
    obtain ⟨sq, _, el⟩ := valid_sq h
    have sK : ∀ k : Nat, cycP (starN m k) := fun k => cyc_ok (starN_sq m k) hp
    have bad : ∀ k : Nat, k ≤ m.length → cyclicF (starN m k) = true → starS m = [] ∧ (120 : Int) = starE m ∧ True := fun k hk hc => by
      have := starBad_at k hk hc
      simp [starS, starE, starF, h, this]
    refine ⟨⟨by simp only [D.ilen]; omega, by simp only [D.ilen]; omega, fun i j h0 hi h1 hj => sq.idx2 h0 hi h1 hj⟩, sK 0, bad 0 (by omega), fun h0 => ⟨⟨0, ⟨by omega, by omega, h, fun j hj => ?_⟩, ?_⟩, fun x hx => ⟨fun hlt => ?_, fun hge => ?_⟩⟩⟩
    · have : j = 0 := by omega
      subst this; exact h0
    · simp only [true_and, and_true, eq_self]; rfl
    · have hlt : x < m.length := by simpa using hlt
      obtain ⟨g0, g1, g2, g3⟩ := hx
      have ex : starK m x = starN m x.toNat := rfl
      have es : buildF (star2 (starK m x) x) (D.ilen m) = starN m (x.toNat + 1) := by
        rw [ex]
        show buildF (star2 (starN m x.toNat) x) m.length = buildF (star2 (starN m x.toNat) (x.toNat : Int)) m.length
        rw [Int.toNat_of_nonneg g0]
      rw [es]
      simp only [true_and, and_true, eq_self]
      refine ⟨⟨by simp only [D.ilen]; omega, by simp only [D.ilen]; omega, fun i j h0 hi h1 hj => ?_⟩, sK _, fun hc => by simpa using bad (x.toNat + 1) (by omega) hc, fun hc => ⟨by simp only [inR, D.add]; omega, x + 1, ⟨by omega, by omega, h, fun j hj => ?_⟩, ⟨?_, rfl⟩, ?_⟩⟩
      · rw [ex]
        have sN := starN_sq m x.toNat
        refine ⟨sN.idx2 h0 hi h1 hj, sN.idx2 h0 hi g0 hlt, sN.idx2 g0 hlt h1 hj, fun _ _ => ?_⟩
        have b1 := starN_bd h x.toNat (by omega) i x h0 hi g0 hlt
        have b2 := starN_bd h x.toNat (by omega) x j g0 hlt h1 hj
        have b3 := bd_top (k := x.toNat) (by omega)
        simp only [inR]; omega
      · by_cases e : (j : Int) ≤ x
        · exact g3 j e
        · have : j = x.toNat + 1 := by omega
          rw [this]; exact hc
      · show starN m (x.toNat + 1) = starN m (x + 1).toNat
        rw [show (x + 1).toNat = x.toNat + 1 by omega]
      · simp only [D.nlt, D.nat, D.sub, D.ilen]; omega
    · have hge : ¬ x < m.length := by simpa using hge
      obtain ⟨g0, g1, g2, g3⟩ := hx
      have hb : starBad m = false := by
        unfold starBad
        rw [List.any_eq_false]
        intro k hk
        have := g3 k (by have := List.mem_range.1 hk; omega)
        simp [this]
      have e : x.toNat = m.length := by omega
      have : starF m = (starN m m.length, 0) := by simp [starF, h, hb]
      refine ⟨?_, ?_, trivial⟩
      · unfold starS; rw [this]; show starN m x.toNat = _; rw [e]
      · unfold starE; rw [this]

end Go.Eng.Mp
