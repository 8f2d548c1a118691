/- PeMp1 -/
import Derived.Test.YthdihjmpibfmgaaEng18
import Derived.Test.YthdihjmpibfmgaaChecked
namespace Go.Eng.Mp
open Go.Proofs

abbrev I : Ty := .int .i64
abbrev R : Ty := .sl I
abbrev M : Ty := .sl R

noncomputable def infF (x : Int) : Bool := decide (x ≤ -549755813888)
noncomputable def elemF (x : Int) : Bool := infF x || (decide (x ≥ -1000000000) && decide (x ≤ 1000000000))
noncomputable def plusF (x y : Int) : Int := bif infF x && infF y then -1099511627776 else max x y
noncomputable def timesF (x y : Int) : Int := bif infF x || infF y then -1099511627776 else x + y
noncomputable def timesP (x y : Int) : Prop := infF x = false → infF y = false → inR .i64 (x + y)
noncomputable def eitherF (x y : Bool) : Bool := x || y
noncomputable def foldN {α : Type} (op : α → α → α) (g : Int → α) (z : α) : Nat → α
  | 0 => z
  | k + 1 => op (foldN op g z k) (g k)
noncomputable def foldI (op : Int → Int → Int) (g : Int → Int) (z n : Int) : Int := foldN op g z n.toNat
noncomputable def foldB (op : Bool → Bool → Bool) (g : Int → Bool) (z : Bool) (n : Int) : Bool := foldN op g z n.toNat
noncomputable def preFold (n : Int) (preP : Int → Int → Prop) (preT : Int → Prop) (g : Int → Int) : Prop := n ≤ 9223372036854775807 ∧ ∀ k, 0 ≤ k → k < n → preT k ∧ ∀ x, preP x (g k)
noncomputable def preFoldB (n : Int) (preP : Bool → Bool → Prop) (preT : Int → Prop) (g : Int → Bool) : Prop := n ≤ 9223372036854775807 ∧ ∀ k, 0 ≤ k → k < n → preT k ∧ ∀ x, preP x (g k)
noncomputable def upto (k n : Int) : Prop := 0 ≤ k ∧ (k ≤ n ∨ k = 0)
noncomputable def idx (k : Int) (row : List Int) : Prop := 0 ≤ k ∧ k < (row.length : Int)
noncomputable def at1 (row : List Int) (k : Int) : Int := row.getD k.toNat 0
noncomputable def notElem (row : List Int) (k : Int) : Bool := !(elemF (at1 row k))
noncomputable def wrongF (row : List Int) : Bool := foldB eitherF (notElem row) false row.length
noncomputable def lenOk (row : List Int) : Prop := (row.length : Int) ≤ 9223372036854775807

noncomputable def K0 : Kt := fun _ _ => none
noncomputable def c0 : Cfg := ⟨Try.prog, K0, fun _ => false⟩

theorem vc_inf (x : Int) (h :
     true = true ∧ true = true ∧ (True → D.le x (-549755813888 : Int) = infF x ∧ True)) :
    evF c0 noAnn 47 [.dat I x] ⟨True, .dat .bool (infF x)⟩ := of_eq (by kernel_rfl) h

theorem hm : Try.prog.follows .mixedOrders = true := Checked.mixed Try.checked
theorem KS0 : KSound Try.prog K0 := fun f args c h => by cases h
theorem s_inf (x : Int) : SoundC Try.prog 47 [.dat I x] ⟨True, .dat .bool (infF x)⟩ :=
  sound_of_ev (c := c0) KS0 hm (vc_inf x ⟨rfl, rfl, fun _ => ⟨rfl, trivial⟩⟩)
theorem vc_either (x y : Bool) (h :
     true = true ∧ true = true ∧ (True → (D.and true (D.not x) = true → D.not x = true) ∧ D.cnd x true y = eitherF x y ∧ True)) :
    evF c0 noAnn 49 [.dat .bool x, .dat .bool y] ⟨True, .dat .bool (eitherF x y)⟩ := of_eq (by kernel_rfl) h

theorem s_either (x y : Bool) : SoundC Try.prog 49 [.dat .bool x, .dat .bool y] ⟨True, .dat .bool (eitherF x y)⟩ :=
  sound_of_ev (c := c0) KS0 hm (vc_either x y (by cases x <;> cases y <;> simp [eitherF]))

noncomputable def foldA (n z : Int) (op : Int → Int → Int) (g : Int → Int) : Ann := ⟨fun id s => match id with
  | 3 => some { α := Int, inv := fun k => upto k n, st := fun k => put s [(13, .dat I k), (9, .dat I (foldI op g z k))], μ := fun k => D.nat (D.sub n k) }
  | _ => none, fun _ _ => none, fun _ _ => none⟩
noncomputable def foldBA (n : Int) (z : Bool) (op : Bool → Bool → Bool) (g : Int → Bool) : Ann := ⟨fun id s => match id with
  | 3 => some { α := Int, inv := fun k => upto k n, st := fun k => put s [(13, .dat I k), (9, .dat .bool (foldB op g z k))], μ := fun k => D.nat (D.sub n k) }
  | _ => none, fun _ _ => none, fun _ _ => none⟩

theorem vc_fold (n z : Int) (preP : Int → Int → Prop) (op : Int → Int → Int) (preT : Int → Prop) (g : Int → Int) (h :
     true = true ∧ true = true ∧ (preFold n preP preT g → (∃ x, upto x n ∧ n = n ∧ z = z ∧ AV.clo2 (Ty.int IntKind.i64) (Ty.int IntKind.i64)
    (Ty.int IntKind.i64) preP op = AV.clo2 (Ty.int IntKind.i64) (Ty.int IntKind.i64) (Ty.int IntKind.i64) preP op ∧ AV.clo1 (Ty.int IntKind.i64) (Ty.int
    IntKind.i64) preT g = AV.clo1 (Ty.int IntKind.i64) (Ty.int IntKind.i64) preT g ∧ (0 : Int) = (0 : Int) ∧ z = foldI op g z x ∧ z = z ∧ n = n ∧ (0 : Int) = x ∧
    True) ∧ ∀ (x : Int), upto x n → (D.lt x n = true → preT x ∧ preP (foldI op g z x) (g x) ∧ inR IntKind.i64 (D.add x (1 : Int)) ∧ ∃ y, upto y n ∧ (n = n ∧ z = z ∧
    AV.clo2 (Ty.int IntKind.i64) (Ty.int IntKind.i64) (Ty.int IntKind.i64) preP op = AV.clo2 (Ty.int IntKind.i64) (Ty.int IntKind.i64) (Ty.int IntKind.i64) preP op
    ∧ AV.clo1 (Ty.int IntKind.i64) (Ty.int IntKind.i64) preT g = AV.clo1 (Ty.int IntKind.i64) (Ty.int IntKind.i64) preT g ∧ (0 : Int) = (0 : Int) ∧ op (foldI op g z
    x) (g x) = foldI op g z y ∧ z = z ∧ n = n ∧ D.add x (1 : Int) = y ∧ True) ∧ D.nlt (D.nat (D.sub n y)) (D.nat (D.sub n x))) ∧ (D.lt x n = false → foldI op g z x
    = foldI op g z n ∧ True))) :
    evF c0 (foldA n z op g) 44 [.dat I n, .dat I z, .clo2 I I I preP op, .clo1 I I preT g] ⟨preFold n preP preT g, .dat I (foldI op g z n)⟩ := of_eq (by kernel_rfl) h

theorem foldI_zero (op : Int → Int → Int) (g : Int → Int) (z : Int) : foldI op g z 0 = z := rfl
theorem foldI_succ (op : Int → Int → Int) (g : Int → Int) (z k : Int) (h : 0 ≤ k) : foldI op g z (k + 1) = op (foldI op g z k) (g k) := by
  unfold foldI
  have e : (k + 1).toNat = k.toNat + 1 := by omega
  rw [e]
  show op _ (g (k.toNat : Int)) = _
  rw [Int.toNat_of_nonneg h]
theorem foldI_end (op : Int → Int → Int) (g : Int → Int) (z k n : Int) (h : upto k n) (h2 : ¬ k < n) : foldI op g z k = foldI op g z n := by
  unfold foldI
  unfold upto at h
  have e : k.toNat = n.toNat := by omega
  rw [e]

theorem s_fold (n z : Int) (preP : Int → Int → Prop) (op : Int → Int → Int) (preT : Int → Prop) (g : Int → Int) :
    SoundC Try.prog 44 [.dat I n, .dat I z, .clo2 I I I preP op, .clo1 I I preT g] ⟨preFold n preP preT g, .dat I (foldI op g z n)⟩ := by
  refine sound_of_ev (c := c0) KS0 hm (vc_fold n z preP op preT g ⟨rfl, rfl, fun hp => ⟨⟨0, ⟨by omega, .inr rfl⟩, ?_⟩, fun x hx => ⟨fun hlt => ?_, fun hge => ?_⟩⟩⟩)
  · simp [foldI_zero]
  · have hlt : x < n := by simpa using hlt
    have h0 := hx.1
    obtain ⟨p1, p2⟩ := hp.2 x h0 hlt
    refine ⟨p1, p2 _, ?_, x + 1, ⟨by omega, .inl (by omega)⟩, ?_, ?_⟩
    · have := hp.1; simp only [inR, D.add]; omega
    · simp [foldI_succ op g z x h0]
    · simp only [D.nlt, D.nat, D.sub]; omega
  · have hge : ¬ x < n := by simpa using hge
    exact ⟨foldI_end op g z x n hx hge, trivial⟩
theorem vc_foldB (n : Int) (z : Bool) (preP : Bool → Bool → Prop) (op : Bool → Bool → Bool) (preT : Int → Prop) (g : Int → Bool) (h :
     true = true ∧ true = true ∧ (preFoldB n preP preT g → (∃ x, upto x n ∧ n = n ∧ z = z ∧ AV.clo2 Ty.bool Ty.bool Ty.bool preP op =
    AV.clo2 Ty.bool Ty.bool Ty.bool preP op ∧ AV.clo1 (Ty.int IntKind.i64) Ty.bool preT g = AV.clo1 (Ty.int IntKind.i64) Ty.bool preT g ∧ false = false ∧ z = foldB
    op g z x ∧ z = z ∧ n = n ∧ (0 : Int) = x ∧ True) ∧ ∀ (x : Int), upto x n → (D.lt x n = true → preT x ∧ preP (foldB op g z x) (g x) ∧ inR IntKind.i64 (D.add x (1
    : Int)) ∧ ∃ y, upto y n ∧ (n = n ∧ z = z ∧ AV.clo2 Ty.bool Ty.bool Ty.bool preP op = AV.clo2 Ty.bool Ty.bool Ty.bool preP op ∧ AV.clo1 (Ty.int IntKind.i64)
    Ty.bool preT g = AV.clo1 (Ty.int IntKind.i64) Ty.bool preT g ∧ false = false ∧ op (foldB op g z x) (g x) = foldB op g z y ∧ z = z ∧ n = n ∧ D.add x (1 : Int) =
    y ∧ True) ∧ D.nlt (D.nat (D.sub n y)) (D.nat (D.sub n x))) ∧ (D.lt x n = false → foldB op g z x = foldB op g z n ∧ True))) :
    evF c0 (foldBA n z op g) 48 [.dat I n, .dat .bool z, .clo2 .bool .bool .bool preP op, .clo1 I .bool preT g] ⟨preFoldB n preP preT g, .dat .bool (foldB op g z n)⟩ := of_eq (by kernel_rfl) h

theorem foldB_zero (op : Bool → Bool → Bool) (g : Int → Bool) (z : Bool) : foldB op g z 0 = z := rfl
theorem foldB_succ (op : Bool → Bool → Bool) (g : Int → Bool) (z : Bool) (k : Int) (h : 0 ≤ k) : foldB op g z (k + 1) = op (foldB op g z k) (g k) := by
  unfold foldB
  have e : (k + 1).toNat = k.toNat + 1 := by omega
  rw [e]
  show op _ (g (k.toNat : Int)) = _
  rw [Int.toNat_of_nonneg h]
theorem foldB_end (op : Bool → Bool → Bool) (g : Int → Bool) (z : Bool) (k n : Int) (h : upto k n) (h2 : ¬ k < n) : foldB op g z k = foldB op g z n := by
  unfold foldB
  unfold upto at h
  have e : k.toNat = n.toNat := by omega
  rw [e]

theorem s_foldB (n : Int) (z : Bool) (preP : Bool → Bool → Prop) (op : Bool → Bool → Bool) (preT : Int → Prop) (g : Int → Bool) :
    SoundC Try.prog 48 [.dat I n, .dat .bool z, .clo2 .bool .bool .bool preP op, .clo1 I .bool preT g] ⟨preFoldB n preP preT g, .dat .bool (foldB op g z n)⟩ := by
  refine sound_of_ev (c := c0) KS0 hm (vc_foldB n z preP op preT g ⟨rfl, rfl, fun hp => ⟨⟨0, ⟨by omega, .inr rfl⟩, ?_⟩, fun x hx => ⟨fun hlt => ?_, fun hge => ?_⟩⟩⟩)
  · simp [foldB_zero]
  · have hlt : x < n := by simpa using hlt
    have h0 := hx.1
    obtain ⟨p1, p2⟩ := hp.2 x h0 hlt
    refine ⟨p1, p2 _, ?_, x + 1, ⟨by omega, .inl (by omega)⟩, ?_, ?_⟩
    · have := hp.1; simp only [inR, D.add]; omega
    · simp [foldB_succ op g z x h0]
    · simp only [D.nlt, D.nat, D.sub]; omega
  · have hge : ¬ x < n := by simpa using hge
    exact ⟨foldB_end op g z x n hx hge, trivial⟩

noncomputable def K1 : Kt := fun f args => match f, args with
  | 47, [.dat (.int .i64) x] => some ⟨True, .dat .bool (infF x)⟩
  | 49, [.dat .bool x, .dat .bool y] => some ⟨True, .dat .bool (eitherF x y)⟩
  | _, _ => none
noncomputable def c1 : Cfg := ⟨Try.prog, K1, fun _ => false⟩

theorem vc_elem (x : Int) (h :
     true = true ∧ true = true ∧ (True → True ∧ (D.not (infF x) = true → D.not (infF x) = true → D.not (infF x) = true) ∧ (D.not (infF x) = true → D.not
    (infF x) = true → D.not (infF x) = true) ∧ (D.and (D.not (infF x)) (D.ge x (-1000000000 : Int)) = true → D.and (D.not (infF x)) (D.ge x (-1000000000 : Int)) =
    true → D.and (D.not (infF x)) (D.ge x (-1000000000 : Int)) = true) ∧ (D.not (infF x) = true → D.not (infF x) = true → D.not (infF x) = true) ∧ (D.not (infF x) =
    true → D.and (D.not (infF x)) (D.ge x (-1000000000 : Int)) = true → D.and (D.not (infF x)) (D.ge x (-1000000000 : Int)) = true) ∧ (D.and true (D.not (infF x)) =
    true → D.not (infF x) = true) ∧ D.cnd (infF x) true (D.cnd (D.ge x (-1000000000 : Int)) (D.le x (1000000000 : Int)) false) = elemF x ∧ True)) :
    evF c1 noAnn 52 [.dat I x] ⟨True, .dat .bool (elemF x)⟩ := of_eq (by kernel_rfl) h

theorem KS1 : KSound Try.prog K1 := by
  intro f args c h
  unfold K1 at h
  split at h
  · cases h; exact s_inf _
  · cases h; exact s_either _ _
  · cases h
theorem s_elem (x : Int) : SoundC Try.prog 52 [.dat I x] ⟨True, .dat .bool (elemF x)⟩ :=
  sound_of_ev (c := c1) KS1 hm (vc_elem x (by cases h : infF x <;> simp [elemF, h, Bool.cond_eq_ite]))
theorem vc_plus (x y : Int) (h :
     true = true ∧ true = true ∧ (True → True ∧ (infF x = true → infF x = true → infF x = true) ∧ (infF x = true → True) ∧ (D.and true (infF x) = true →
    infF x = true) ∧ (D.cnd (infF x) (infF y) false = true → (-1099511627776 : Int) = plusF x y ∧ True) ∧ (D.cnd (infF x) (infF y) false = false → D.mx x y = plusF
    x y ∧ True))) :
    evF c1 noAnn 34 [.dat I x, .dat I y] ⟨True, .dat I (plusF x y)⟩ := of_eq (by kernel_rfl) h

theorem s_plus (x y : Int) : SoundC Try.prog 34 [.dat I x, .dat I y] ⟨True, .dat I (plusF x y)⟩ :=
  sound_of_ev (c := c1) KS1 hm (vc_plus x y (by cases h : infF x <;> cases h2 : infF y <;> simp [plusF, h, h2]))
theorem vc_times (x y : Int) (h :
     true = true ∧ true = true ∧ (timesP x y → True ∧ (D.not (infF x) = true → D.not (infF x) = true → D.not (infF x) = true) ∧ (D.not (infF x) = true →
    True) ∧ (D.and true (D.not (infF x)) = true → D.not (infF x) = true) ∧ (D.cnd (infF x) true (infF y) = true → (-1099511627776 : Int) = timesF x y ∧ True) ∧
    (D.cnd (infF x) true (infF y) = false → inR IntKind.i64 (D.add x y) ∧ D.add x y = timesF x y ∧ True))) :
    evF c1 noAnn 37 [.dat I x, .dat I y] ⟨timesP x y, .dat I (timesF x y)⟩ := of_eq (by kernel_rfl) h

theorem s_times (x y : Int) : SoundC Try.prog 37 [.dat I x, .dat I y] ⟨timesP x y, .dat I (timesF x y)⟩ :=
  sound_of_ev (c := c1) KS1 hm (vc_times x y (by cases h : infF x <;> cases h2 : infF y <;> simp [timesF, timesP, h, h2]))

noncomputable def K2 : Kt := fun f args => match f, args with
  | 52, [.dat (.int .i64) x] => some ⟨True, .dat .bool (elemF x)⟩
  | 34, [.dat (.int .i64) x, .dat (.int .i64) y] => some ⟨True, .dat I (plusF x y)⟩
  | 37, [.dat (.int .i64) x, .dat (.int .i64) y] => some ⟨timesP x y, .dat I (timesF x y)⟩
  | _, _ => K1 f args
noncomputable def c2 : Cfg := ⟨Try.prog, K2, fun _ => false⟩

theorem vc_wrong1 (k : Int) (row : List Int) (h :
     true = true ∧ true = true ∧ (idx k row → D.ile (0 : Int) k ∧ D.ilt k (D.ilen row) ∧ True ∧ D.not (elemF (D.get row (D.nat k) (0 : Int))) = notElem
    row k ∧ True)) :
    evF c2 noAnn 51 [.dat I k, .ip R row] ⟨idx k row, .dat .bool (notElem row k)⟩ := of_eq (by kernel_rfl) h

theorem KS2 : KSound Try.prog K2 := by
  intro f args c h
  unfold K2 at h
  split at h
  · cases h; exact s_elem _
  · cases h; exact s_plus _ _
  · cases h; exact s_times _ _
  · exact KS1 _ _ _ h
theorem s_wrong1 (k : Int) (row : List Int) : SoundC Try.prog 51 [.dat I k, .ip R row] ⟨idx k row, .dat .bool (notElem row k)⟩ :=
  sound_of_ev (c := c2) KS2 hm (vc_wrong1 k row ⟨rfl, rfl, fun h => ⟨h.1, h.2, trivial, rfl, trivial⟩⟩)
theorem relL_dat2 {P : Program} {C : Ctx} {a b x y x' y' : AV} {us : List Value} (h : AV.relL P C [a, b, x, y] us) (hx : ∀ v, x.rel P C v → x'.rel P C v) (hy : ∀ v, y.rel P C v → y'.rel P C v) : AV.relL P C [a, b, x', y'] us := by
  obtain ⟨u, us, rfl, h1, u2, us, rfl, h2, u3, us, rfl, h3, u4, us, rfl, h4, h5⟩ := h
  exact ⟨_, _, rfl, h1, _, _, rfl, h2, _, _, rfl, hx _ h3, _, _, rfl, hy _ h4, h5⟩
theorem either_clo {C : Ctx} {v : Value} (h : (AV.fn 49 []).rel Try.prog C v) : (AV.clo2 .bool .bool .bool (fun _ _ => True) eitherF).rel Try.prog C v :=
  clo2_of_fn (by kernel_rfl) rfl (fun x y => s_either x y) h
theorem plus_clo {C : Ctx} {v : Value} (h : (AV.fn 34 []).rel Try.prog C v) : (AV.clo2 I I I (fun _ _ => True) plusF).rel Try.prog C v :=
  clo2_of_fn (by kernel_rfl) rfl (fun x y => s_plus x y) h
theorem s_foldB_fn (n : Int) (z : Bool) {f : FuncId} {caps : List AV} (preT : Int → Prop) (g : Int → Bool) (hg : goes Try.prog f = true) (hn : AV.namesL caps = []) (h : ∀ k, SoundC Try.prog f (.dat I k :: caps) ⟨preT k, .dat .bool (g k)⟩) :
    SoundC Try.prog 48 [.dat I n, .dat .bool z, .fn 49 [], .fn f caps] ⟨preFoldB n (fun _ _ => True) preT g, .dat .bool (foldB eitherF g z n)⟩ :=
  (s_foldB n z _ eitherF preT g).args fun _ _ hu => relL_dat2 hu (fun _ h => either_clo h) (fun _ hv => clo1_of_fn hg hn h hv)
theorem s_fold_fn (n z : Int) {f : FuncId} {caps : List AV} (preT : Int → Prop) (g : Int → Int) (hg : goes Try.prog f = true) (hn : AV.namesL caps = []) (h : ∀ k, SoundC Try.prog f (.dat I k :: caps) ⟨preT k, .dat I (g k)⟩) :
    SoundC Try.prog 44 [.dat I n, .dat I z, .fn 34 [], .fn f caps] ⟨preFold n (fun _ _ => True) preT g, .dat I (foldI plusF g z n)⟩ :=
  (s_fold n z _ plusF preT g).args fun _ _ hu => relL_dat2 hu (fun _ h => plus_clo h) (fun _ hv => clo1_of_fn hg hn h hv)

noncomputable def K3 : Kt := fun f args => match f, args with
  | 48, [.dat (.int .i64) n, .dat .bool z, .fn 49 [], .fn 51 [.ip (.sl (.int .i64)) row]] => some ⟨preFoldB n (fun _ _ => True) (fun k => idx k row) (notElem row), .dat .bool (foldB eitherF (notElem row) z n)⟩
  | _, _ => K2 f args
noncomputable def c3 : Cfg := ⟨Try.prog, K3, fun _ => false⟩

theorem vc_wrong (row : List Int) (h :
     true = true ∧ true = true ∧ (lenOk row → preFoldB (D.ilen row) (fun x x_1 ↦ True) (fun k ↦ idx k row) (notElem row) ∧ foldB eitherF (notElem row)
    false (D.ilen row) = wrongF row ∧ True)) :
    evF c3 noAnn 38 [.dat R row] ⟨lenOk row, .dat .bool (wrongF row)⟩ := of_eq (by kernel_rfl) h

theorem KS3 : KSound Try.prog K3 := by
  intro f args c h
  unfold K3 at h
  split at h
  · cases h; exact s_foldB_fn _ _ _ _ (by kernel_rfl) rfl (fun k => s_wrong1 k _)
  · exact KS2 _ _ _ h
theorem s_wrong (row : List Int) : SoundC Try.prog 38 [.dat R row] ⟨lenOk row, .dat .bool (wrongF row)⟩ :=
  sound_of_ev (c := c3) KS3 hm (vc_wrong row ⟨rfl, rfl, fun h => ⟨⟨h, fun k h0 h1 => ⟨⟨h0, h1⟩, fun _ => trivial⟩⟩, rfl, trivial⟩⟩)

end Go.Eng.Mp
