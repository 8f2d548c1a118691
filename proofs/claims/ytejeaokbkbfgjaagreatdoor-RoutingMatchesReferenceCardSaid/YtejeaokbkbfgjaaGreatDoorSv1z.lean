/- PeSv1z -/
import Derived.Test.YtejeaokbkbfgjaaGreatDoorX22
import Derived.Test.YtejeaokbkbfgjaaGreatDoorChecked
set_option linter.unusedSimpArgs false
set_option linter.unusedVariables false
set_option maxRecDepth 100000
noncomputable section
namespace Go.Eng.Sv
open Go.Proofs
abbrev I : Ty := .int .i64
abbrev U : Ty := .int .u8
abbrev B : Ty := .sl .bool
abbrev R : Ty := .sl I
abbrev LC : Type := List (Int × List Bool × List Int)
abbrev LB : Type := List ByteArray
abbrev C : Ty := .pair I (.pair B R)
abbrev S : Ty := .str
abbrev cal (z : Int) (w : List Bool) (h : List Int) : AV := .agg [.dat I z, .dat B w, .dat R h]
def kw : List ByteArray := [⟨#[99, 97, 108, 101, 110, 100, 97, 114]⟩, ⟨#[111, 112, 101, 114, 97, 116, 111, 114]⟩, ⟨#[111, 102, 102, 105, 99, 101]⟩, ⟨#[108, 105, 110, 101]⟩, ⟨#[99, 108, 97, 115, 115]⟩, ⟨#[122, 111, 110, 101]⟩, ⟨#[119, 101, 101, 107]⟩, ⟨#[104, 111, 108, 105, 100, 97, 121]⟩, ⟨#[112, 111, 99, 107, 101, 116, 115]⟩, ⟨#[112, 97, 115, 115, 101, 115]⟩, ⟨#[109, 105, 110, 117, 116, 101, 115]⟩, ⟨#[99, 111, 100, 101, 115]⟩, ⟨#[97, 116]⟩, ⟨#[116, 114, 97, 118, 101, 108]⟩, ⟨#[108, 111, 97, 100]⟩, ⟨#[99, 117, 116]⟩, ⟨#[100, 101, 108, 105, 118, 101, 114]⟩]
def smallB (b : Int) : Bool := decide (97 ≤ b ∧ b ≤ 122)
def digitB (b : Int) : Bool := decide (48 ≤ b ∧ b ≤ 57)
def fromF (v a b : Int) : Bool := decide (a ≤ v ∧ v ≤ b)
def nameB (b : Int) : Bool := smallB b || digitB b || decide (b = 95)
def codeB (b : Int) : Bool := digitB b || decide (65 ≤ b ∧ b ≤ 90)
def isKey (s : ByteArray) : Bool := kw.any fun w => w.toList == s.toList
def isNameF (s : ByteArray) : Bool := decide (1 ≤ s.size ∧ s.size ≤ 16) && smallB ((s.data.getD 0 0).toNat : Int) && (s.data.toList.all fun b => nameB (b.toNat : Int)) && !isKey s
def isCodeF (s : ByteArray) : Bool := decide (1 ≤ s.size ∧ s.size ≤ 8) && s.data.toList.all fun b => codeB (b.toNat : Int)
def nameTo (s : ByteArray) (k : Int) : Prop := 0 ≤ k ∧ k ≤ s.size ∧ (s.data.toList.take k.toNat).all (fun b => nameB (b.toNat : Int)) = true
def codeTo (s : ByteArray) (k : Int) : Prop := 0 ≤ k ∧ k ≤ s.size ∧ (s.data.toList.take k.toNat).all (fun b => codeB (b.toNat : Int)) = true
def keyTo (s : ByteArray) (k : Int) : Prop := 0 ≤ k ∧ k ≤ 17 ∧ (kw.take k.toNat).any (fun w => w.toList == s.toList) = false
def validF (z : Int) (w : List Bool) (h : List Int) : Bool := decide (-720 ≤ z ∧ z ≤ 840 ∧ w.length = 7 ∧ h.length ≤ 40) && (List.range (h.length - 1)).all fun i => decide (h.getD i 0 < h.getD (i + 1) 0)
def smallF (w : List Bool) (h : List Int) : Bool := decide (w.length ≤ 20) && decide (h.length ≤ 60)
def incTo (h : List Int) (k : Int) : Prop := 1 ≤ k ∧ (k ≤ h.length ∨ k = 1) ∧ h.length ≤ 40 ∧ ∀ i : Nat, (i : Int) + 1 < k → h.getD i 0 < h.getD (i + 1) 0
def limitF (k : Int) : Int := if k = 3 then 12 else if k = 4 then 40 else if k = 5 then 4 else 6
def K0 : Kt := fun f args m => none
def G0 : List (Nat × AV) := [(0, .ia S kw)]
def KI0 : FuncId → List AV → Option IRes := fun _ _ => none
noncomputable def mkc (K : Kt) : Cfg := ⟨Tryz.prog, G0, K, fun _ => false, KI0, false⟩
def validA (h : List Int) : Ann := ⟨fun id s => match id with
  | 4 => some { α := Int, inv := fun k => incTo h k, st := fun k => put s [(3, .dat I k)], μ := fun k => D.nat (D.sub (D.ilen h) k) }
  | _ => none, fun _ _ => none, fun _ _ => none⟩
theorem vc_valid (z : Int) (w : List Bool) (h : List Int) (hvc :
 let c1 := D.lt z (-720 : Int);
 let c2 := D.not c1;
 let c3 := D.cnd c1 true (D.gt z (840 : Int));
 let c4 := D.not c3;
 let c5 := D.cnd c3 true (D.ne (D.ilen w) (7 : Int));
 let c6 := D.not c5;
 let c7 := D.cnd c5 true (D.gt (D.ilen h) (40 : Int));
 let c8 := (z, w, h); true = true ∧ (True → (c2 = true → c2 = true → c2 = true) ∧ (c2 = true → c2 = true → c2 = true) ∧ (D.and true c2 = true → c2 = true) ∧ (c4
  = true → c4 = true → c4 = true) ∧ (c4 = true → c4 = true → c4 = true) ∧ (c4 = true → c4 = true → c4 = true) ∧ (D.and true c4 = true → c4 = true) ∧ (c6 = true →
  c6 = true → c6 = true) ∧ (c6 = true → c6 = true → c6 = true) ∧ (c6 = true → c6 = true → c6 = true) ∧ (D.and true c6 = true → c6 = true) ∧ (c7 = true → false =
  validF z w h ∧ True) ∧ (c7 = false → (∃ x, incTo h x ∧ z = z ∧ w = w ∧ h = h ∧ c8 = c8 ∧ (1 : Int) = x ∧ c8 = c8 ∧ z = z ∧ c1 = c1 ∧ c1 = c1 ∧ c3 = c3 ∧ c3 =
  c3 ∧ c5 = c5 ∧ c5 = c5 ∧ c7 = c7 ∧ True) ∧ ∀ (x : Int),
 let c9 := D.lt x (D.ilen h);
 let c10 := D.sub x (1 : Int);
 let c11 := D.le (D.get h (D.nat x) (0 : Int)) (D.get h (D.nat c10) (0 : Int));
 let c12 := D.add x (1 : Int); incTo h x → (c9 = true → D.ile (0 : Int) x ∧ D.ilt x (D.ilen h) ∧ inR IntKind.i64 c10 ∧ D.ile (0 : Int) c10 ∧ D.ilt c10 (D.ilen h)
  ∧ (c11 = true → false = validF z w h ∧ True) ∧ (c11 = false → inR IntKind.i64 c12 ∧ ∃ y, incTo h y ∧ (z = z ∧ w = w ∧ h = h ∧ c8 = c8 ∧ c12 = y ∧ c8 = c8 ∧ z =
  z ∧ c1 = c1 ∧ c1 = c1 ∧ c3 = c3 ∧ c3 = c3 ∧ c5 = c5 ∧ c5 = c5 ∧ c7 = c7 ∧ True) ∧ D.nlt (D.nat (D.sub (D.ilen h) y)) (D.nat (D.sub (D.ilen h) x)))) ∧ (c9 =
  false → true = validF z w h ∧ True)))) :
    evF (mkc K0) (validA h) 69 [cal z w h] [] ⟨True, .dat .bool (validF z w h), []⟩ := of_eq (by kernel_rfl) hvc
theorem vc_rvalid (z : Int) (w : List Bool) (h : List Int) (hvc :
 let c1 := D.lt z (-720 : Int);
 let c2 := D.not c1;
 let c3 := D.cnd c1 true (D.gt z (840 : Int));
 let c4 := D.not c3;
 let c5 := D.cnd c3 true (D.ne (D.ilen w) (7 : Int));
 let c6 := D.not c5;
 let c7 := D.cnd c5 true (D.gt (D.ilen h) (40 : Int));
 let c8 := (z, w, h); true = true ∧ (True → (c2 = true → c2 = true → c2 = true) ∧ (c2 = true → c2 = true → c2 = true) ∧ (D.and true c2 = true → c2 = true) ∧ (c4
  = true → c4 = true → c4 = true) ∧ (c4 = true → c4 = true → c4 = true) ∧ (c4 = true → c4 = true → c4 = true) ∧ (D.and true c4 = true → c4 = true) ∧ (c6 = true →
  c6 = true → c6 = true) ∧ (c6 = true → c6 = true → c6 = true) ∧ (c6 = true → c6 = true → c6 = true) ∧ (D.and true c6 = true → c6 = true) ∧ (c7 = true → false =
  validF z w h ∧ True) ∧ (c7 = false → (∃ x, incTo h x ∧ z = z ∧ w = w ∧ h = h ∧ c8 = c8 ∧ (1 : Int) = x ∧ c8 = c8 ∧ z = z ∧ c1 = c1 ∧ c1 = c1 ∧ c3 = c3 ∧ c3 =
  c3 ∧ c5 = c5 ∧ c5 = c5 ∧ c7 = c7 ∧ True) ∧ ∀ (x : Int),
 let c9 := D.lt x (D.ilen h);
 let c10 := D.sub x (1 : Int);
 let c11 := D.ge (D.get h (D.nat c10) (0 : Int)) (D.get h (D.nat x) (0 : Int));
 let c12 := D.add x (1 : Int); incTo h x → (c9 = true → inR IntKind.i64 c10 ∧ D.ile (0 : Int) c10 ∧ D.ilt c10 (D.ilen h) ∧ D.ile (0 : Int) x ∧ D.ilt x (D.ilen h)
  ∧ (c11 = true → false = validF z w h ∧ True) ∧ (c11 = false → inR IntKind.i64 c12 ∧ ∃ y, incTo h y ∧ (z = z ∧ w = w ∧ h = h ∧ c8 = c8 ∧ c12 = y ∧ c8 = c8 ∧ z =
  z ∧ c1 = c1 ∧ c1 = c1 ∧ c3 = c3 ∧ c3 = c3 ∧ c5 = c5 ∧ c5 = c5 ∧ c7 = c7 ∧ True) ∧ D.nlt (D.nat (D.sub (D.ilen h) y)) (D.nat (D.sub (D.ilen h) x)))) ∧ (c9 =
  false → true = validF z w h ∧ True)))) :
    evF (mkc K0) (validA h) 64 [cal z w h] [] ⟨True, .dat .bool (validF z w h), []⟩ := of_eq (by kernel_rfl) hvc
theorem vc_small (z : Int) (w : List Bool) (h : List Int) (hvc :
 let c1 := D.le (D.ilen w) (20 : Int); true = true ∧ (True → (c1 = true → c1 = true → c1 = true) ∧ (c1 = true → c1 = true → c1 = true) ∧ (c1 = true → c1 = true →
  c1 = true) ∧ (D.and true c1 = true → c1 = true) ∧ D.cnd c1 (D.le (D.ilen h) (60 : Int)) false = smallF w h ∧ True)) :
    evF (mkc K0) noAnn 33 [cal z w h] [] ⟨True, .dat .bool (smallF w h), []⟩ := of_eq (by kernel_rfl) hvc
theorem vc_isSmall (b : Int) (hvc :
 let c1 := D.ge b (97 : Int); true = true ∧ (True → (c1 = true → c1 = true → c1 = true) ∧ (D.and true c1 = true → c1 = true) ∧ D.cnd c1 (D.le b (122 : Int))
  false = smallB b ∧ True)) :
    evF (mkc K0) noAnn 138 [.dat U b] [] ⟨True, .dat .bool (smallB b), []⟩ := of_eq (by kernel_rfl) hvc
theorem vc_isDigit (b : Int) (hvc :
 let c1 := D.ge b (48 : Int); true = true ∧ (True → (c1 = true → c1 = true → c1 = true) ∧ (D.and true c1 = true → c1 = true) ∧ D.cnd c1 (D.le b (57 : Int)) false
  = digitB b ∧ True)) :
    evF (mkc K0) noAnn 139 [.dat U b] [] ⟨True, .dat .bool (digitB b), []⟩ := of_eq (by kernel_rfl) hvc
theorem vc_Digit (b : Int) (hvc :
 let c1 := D.ge b (48 : Int); true = true ∧ (True → (c1 = true → c1 = true → c1 = true) ∧ (D.and true c1 = true → c1 = true) ∧ D.cnd c1 (D.le b (57 : Int)) false
  = digitB b ∧ True)) :
    evF (mkc K0) noAnn 143 [.dat U b] [] ⟨True, .dat .bool (digitB b), []⟩ := of_eq (by kernel_rfl) hvc
theorem vc_isFrom (v a b : Int) (hvc :
  true = true ∧ (True → (D.ge v a = true → D.ge v a = true → D.ge v a = true) ∧ (D.ge v a = true → D.ge v a = true → D.ge v a = true) ∧ (D.and true
  (D.ge v a) = true → D.ge v a = true) ∧ D.cnd (D.ge v a) (D.le v b) false = fromF v a b ∧ True)) :
    evF (mkc K0) noAnn 127 [.dat I v, .dat I a, .dat I b] [] ⟨True, .dat .bool (fromF v a b), []⟩ := of_eq (by kernel_rfl) hvc
theorem vc_between (v a b : Int) (hvc :
  true = true ∧ (True → (D.ge v a = true → D.ge v a = true → D.ge v a = true) ∧ (D.ge v a = true → D.ge v a = true → D.ge v a = true) ∧ (D.and true
  (D.ge v a) = true → D.ge v a = true) ∧ D.cnd (D.ge v a) (D.le v b) false = fromF v a b ∧ True)) :
    evF (mkc K0) noAnn 146 [.dat I v, .dat I a, .dat I b] [] ⟨True, .dat .bool (fromF v a b), []⟩ := of_eq (by kernel_rfl) hvc
theorem vc_limit (k : Int) (hvc :
 let c1 := D.eq k (3 : Int);
 let c2 := D.eq k (4 : Int);
 let c3 := D.eq k (5 : Int); true = true ∧ (True → (c1 = true → (12 : Int) = limitF k ∧ True) ∧ (c1 = false → (c2 = true → (40 : Int) = limitF k ∧ True) ∧ (c2 =
  false → (c3 = true → (4 : Int) = limitF k ∧ True) ∧ (c3 = false → (6 : Int) = limitF k ∧ True))))) :
    evF (mkc K0) noAnn 135 [.dat I k] [] ⟨True, .dat I (limitF k), []⟩ := of_eq (by kernel_rfl) hvc
theorem vc_keys  (hvc :
 true = true ∧ (True → [ByteArray.mk #[(99 : UInt8), (97 : UInt8), (108 : UInt8), (101 : UInt8), (110 : UInt8), (100 : UInt8), (97 : UInt8), (114 : UInt8)],
  ByteArray.mk #[(111 : UInt8), (112 : UInt8), (101 : UInt8), (114 : UInt8), (97 : UInt8), (116 : UInt8), (111 : UInt8), (114 : UInt8)], ByteArray.mk #[(111 :
  UInt8), (102 : UInt8), (102 : UInt8), (105 : UInt8), (99 : UInt8), (101 : UInt8)], ByteArray.mk #[(108 : UInt8), (105 : UInt8), (110 : UInt8), (101 : UInt8)],
  ByteArray.mk #[(99 : UInt8), (108 : UInt8), (97 : UInt8), (115 : UInt8), (115 : UInt8)], ByteArray.mk #[(122 : UInt8), (111 : UInt8), (110 : UInt8), (101 :
  UInt8)], ByteArray.mk #[(119 : UInt8), (101 : UInt8), (101 : UInt8), (107 : UInt8)], ByteArray.mk #[(104 : UInt8), (111 : UInt8), (108 : UInt8), (105 : UInt8),
  (100 : UInt8), (97 : UInt8), (121 : UInt8)], ByteArray.mk #[(112 : UInt8), (111 : UInt8), (99 : UInt8), (107 : UInt8), (101 : UInt8), (116 : UInt8), (115 :
  UInt8)], ByteArray.mk #[(112 : UInt8), (97 : UInt8), (115 : UInt8), (115 : UInt8), (101 : UInt8), (115 : UInt8)], ByteArray.mk #[(109 : UInt8), (105 : UInt8),
  (110 : UInt8), (117 : UInt8), (116 : UInt8), (101 : UInt8), (115 : UInt8)], ByteArray.mk #[(99 : UInt8), (111 : UInt8), (100 : UInt8), (101 : UInt8), (115 :
  UInt8)], ByteArray.mk #[(97 : UInt8), (116 : UInt8)], ByteArray.mk #[(116 : UInt8), (114 : UInt8), (97 : UInt8), (118 : UInt8), (101 : UInt8), (108 : UInt8)],
  ByteArray.mk #[(108 : UInt8), (111 : UInt8), (97 : UInt8), (100 : UInt8)], ByteArray.mk #[(99 : UInt8), (117 : UInt8), (116 : UInt8)], ByteArray.mk #[(100 :
  UInt8), (101 : UInt8), (108 : UInt8), (105 : UInt8), (118 : UInt8), (101 : UInt8), (114 : UInt8)]] = kw ∧ True)) :
    evF (mkc K0) noAnn 147 [] [] ⟨True, .dat (.sl S) kw, []⟩ := of_eq (by kernel_rfl) hvc
def K1 : Kt := fun f args m => match f, args, m with
  | 69, [.agg [.dat (.int .i64) z, .dat (.sl .bool) w, .dat (.sl (.int .i64)) h]], [] => some ⟨True, .dat .bool (validF z w h), []⟩
  | 64, [.agg [.dat (.int .i64) z, .dat (.sl .bool) w, .dat (.sl (.int .i64)) h]], [] => some ⟨True, .dat .bool (validF z w h), []⟩
  | 33, [.agg [.dat (.int .i64) z, .dat (.sl .bool) w, .dat (.sl (.int .i64)) h]], [] => some ⟨True, .dat .bool (smallF w h), []⟩
  | 138, [.dat (.int .u8) b], [] => some ⟨True, .dat .bool (smallB b), []⟩
  | 139, [.dat (.int .u8) b], [] => some ⟨True, .dat .bool (digitB b), []⟩
  | 143, [.dat (.int .u8) b], [] => some ⟨True, .dat .bool (digitB b), []⟩
  | 127, [.dat (.int .i64) v, .dat (.int .i64) a, .dat (.int .i64) b], [] => some ⟨True, .dat .bool (fromF v a b), []⟩
  | 146, [.dat (.int .i64) v, .dat (.int .i64) a, .dat (.int .i64) b], [] => some ⟨True, .dat .bool (fromF v a b), []⟩
  | 135, [.dat (.int .i64) k], [] => some ⟨True, .dat I (limitF k), []⟩
  | 147, [], [] => some ⟨True, .dat (.sl S) kw, []⟩
  | _, _, _ => none
def isNameA (s : ByteArray) : Ann := ⟨fun id st => match id with
  | 4 => some { α := Int, inv := fun k => nameTo s k, st := fun k => put st [(24, .dat I k)], μ := fun k => D.nat (D.sub (D.slen s) k) }
  | 10 => some { α := Int, inv := fun k => keyTo s k, st := fun k => put st [(42, .dat I k)], μ := fun k => D.nat (D.sub 17 k) }
  | _ => none, fun _ _ => none, fun _ _ => none⟩
def isCodeA (s : ByteArray) : Ann := ⟨fun id st => match id with
  | 4 => some { α := Int, inv := fun k => codeTo s k, st := fun k => put st [(16, .dat I k)], μ := fun k => D.nat (D.sub (D.slen s) k) }
  | _ => none, fun _ _ => none, fun _ _ => none⟩
def keyA (s : ByteArray) : Ann := ⟨fun id st => match id with
  | 3 => some { α := Int, inv := fun k => keyTo s k, st := fun k => put st [(4, .dat I k)], μ := fun k => D.nat (D.sub 17 k) }
  | _ => none, fun _ _ => none, fun _ _ => none⟩
def rNameA (s : ByteArray) : Ann := ⟨fun id st => match id with
  | 4 => some { α := Int, inv := fun k => nameTo s k, st := fun k => put st [(3, .dat I k)], μ := fun k => D.nat (D.sub (D.slen s) k) }
  | _ => none, fun _ _ => none, fun _ _ => none⟩
def rCodeA (s : ByteArray) : Ann := ⟨fun id st => match id with
  | 4 => some { α := Int, inv := fun k => codeTo s k, st := fun k => put st [(3, .dat I k)], μ := fun k => D.nat (D.sub (D.slen s) k) }
  | _ => none, fun _ _ => none, fun _ _ => none⟩
theorem vc_isMinute (v : Int) (hvc :
 let c1 := fromF v (0 : Int) (1439 : Int); true = true ∧ (True → True ∧ c1 = c1 ∧ True)) :
    evF (mkc K1) noAnn 104 [.dat I v] [] ⟨True, .dat .bool (fromF v 0 1439), []⟩ := of_eq (by kernel_rfl) hvc
theorem vc_isName (s : ByteArray) (hvc :
 let c1 := D.lt (D.slen s) (1 : Int);
 let c2 := D.not c1;
 let c3 := D.cnd c1 true (D.gt (D.slen s) (16 : Int));
 let c4 := D.not c3;
 let c5 := D.cnd c3 true (D.not (smallB (D.byte s (0 : Int)))); true = true ∧ (True → (c2 = true → c2 = true → c2 = true) ∧ (c2 = true → c2 = true → c2 = true) ∧
  (D.and true c2 = true → c2 = true) ∧ (c4 = true → c4 = true → c4 = true) ∧ (c4 = true → D.ile (0 : Int) (0 : Int)) ∧ (c4 = true → D.ilt (0 : Int) (D.slen s)) ∧
  (c4 = true → c4 = true → c4 = true) ∧ (c4 = true → True) ∧ (c4 = true → c4 = true → c4 = true) ∧ (D.and true c4 = true → c4 = true) ∧ (c5 = true → false =
  isNameF s ∧ True) ∧ (c5 = false → (∃ x, nameTo s x ∧ s = s ∧ s = s ∧ D.slen s = D.slen s ∧ c1 = c1 ∧ c1 = c1 ∧ c3 = c3 ∧ c3 = c3 ∧ c5 = c5 ∧ s = s ∧ D.bytes s
  = D.bytes s ∧ D.ilen (D.bytes s) = D.ilen (D.bytes s) ∧ (0 : Int) = x ∧ True) ∧ ∀ (x : Int),
 let c6 := D.lt x (D.ilen (D.bytes s));
 let c7 := D.get (D.bytes s) (D.nat x) (0 : Int);
 let c8 := D.not (smallB c7);
 let c9 := D.cnd c8 (D.not (digitB c7)) false;
 let c10 := D.cnd c9 (D.ne c7 (95 : Int)) false;
 let c11 := D.add x (1 : Int); nameTo s x → (c6 = true → D.ile (0 : Int) x ∧ D.ilt x (D.ilen (D.bytes s)) ∧ True ∧ (c8 = true → c8 = true → c8 = true) ∧ (c8 =
  true → True) ∧ (c8 = true → c8 = true → c8 = true) ∧ (D.and true c8 = true → c8 = true) ∧ (c9 = true → c9 = true → c9 = true) ∧ (D.and true c9 = true → c9 =
  true) ∧ (c10 = true → false = isNameF s ∧ True) ∧ (c10 = false → inR IntKind.i64 c11 ∧ ∃ y, nameTo s y ∧ (s = s ∧ s = s ∧ D.slen s = D.slen s ∧ c1 = c1 ∧ c1 =
  c1 ∧ c3 = c3 ∧ c3 = c3 ∧ c5 = c5 ∧ s = s ∧ D.bytes s = D.bytes s ∧ D.ilen (D.bytes s) = D.ilen (D.bytes s) ∧ c11 = y ∧ True) ∧ D.nlt (D.nat (D.sub (D.slen s)
  y)) (D.nat (D.sub (D.slen s) x)))) ∧ (c6 = false → D.len kw = 17 ∧ (∃ x_3, keyTo s x_3 ∧ s = s ∧ s = s ∧ D.slen s = D.slen s ∧ c1 = c1 ∧ c1 = c1 ∧ c3 = c3 ∧ c3
  = c3 ∧ c5 = c5 ∧ s = s ∧ D.bytes s = D.bytes s ∧ D.ilen (D.bytes s) = D.ilen (D.bytes s) ∧ x = x ∧ c6 = c6 ∧ kw = kw ∧ (0 : Int) = x_3 ∧ True) ∧ ∀ (x_3 : Int),
 let c12 := D.lt x_3 (17 : Int);
 let c13 := D.sEq s (D.get kw (D.nat x_3) (ByteArray.mk (D.nil UInt8).toArray));
 let c14 := D.add x_3 (1 : Int); keyTo s x_3 → (c12 = true → D.ile (0 : Int) x_3 ∧ D.ilt x_3 (D.ofN (17)) ∧ D.len kw = 17 ∧ (c13 = true → false = isNameF s ∧
  True) ∧ (c13 = false → inR IntKind.i64 c14 ∧ ∃ y, keyTo s y ∧ (s = s ∧ s = s ∧ D.slen s = D.slen s ∧ c1 = c1 ∧ c1 = c1 ∧ c3 = c3 ∧ c3 = c3 ∧ c5 = c5 ∧ s = s ∧
  D.bytes s = D.bytes s ∧ D.ilen (D.bytes s) = D.ilen (D.bytes s) ∧ x = x ∧ c6 = c6 ∧ kw = kw ∧ c14 = y ∧ True) ∧ D.nlt (D.nat (D.sub (17 : Int) y)) (D.nat
  (D.sub (17 : Int) x_3)))) ∧ (c12 = false → true = isNameF s ∧ True))))) :
    evF (mkc K1) (isNameA s) 115 [.dat S s] [] ⟨True, .dat .bool (isNameF s), []⟩ := of_eq (by kernel_rfl) hvc
theorem vc_isCode (s : ByteArray) (hvc :
 let c1 := D.lt (D.slen s) (1 : Int);
 let c2 := D.not c1;
 let c3 := D.cnd c1 true (D.gt (D.slen s) (8 : Int)); true = true ∧ (True → (c2 = true → c2 = true → c2 = true) ∧ (c2 = true → c2 = true → c2 = true) ∧ (D.and
  true c2 = true → c2 = true) ∧ (c3 = true → false = isCodeF s ∧ True) ∧ (c3 = false → (∃ x, codeTo s x ∧ s = s ∧ s = s ∧ D.slen s = D.slen s ∧ c1 = c1 ∧ c1 = c1
  ∧ c3 = c3 ∧ s = s ∧ D.bytes s = D.bytes s ∧ D.ilen (D.bytes s) = D.ilen (D.bytes s) ∧ (0 : Int) = x ∧ True) ∧ ∀ (x : Int),
 let c4 := D.lt x (D.ilen (D.bytes s));
 let c5 := D.get (D.bytes s) (D.nat x) (0 : Int);
 let c6 := D.not (digitB c5);
 let c7 := D.lt c5 (65 : Int);
 let c8 := D.cnd c6 (D.cnd c7 true (D.gt c5 (90 : Int))) false;
 let c9 := D.add x (1 : Int); codeTo s x → (c4 = true → D.ile (0 : Int) x ∧ D.ilt x (D.ilen (D.bytes s)) ∧ True ∧ (c6 = true → c6 = true → c6 = true) ∧ (c6 =
  true → c6 = true → c6 = true) ∧ (D.and c6 (D.not c7) = true → D.and c6 (D.not c7) = true → D.and c6 (D.not c7) = true) ∧ (c6 = true → c6 = true → c6 = true) ∧
  (c6 = true → D.and c6 (D.not c7) = true → D.and c6 (D.not c7) = true) ∧ (D.and true c6 = true → c6 = true) ∧ (c8 = true → false = isCodeF s ∧ True) ∧ (c8 =
  false → inR IntKind.i64 c9 ∧ ∃ y, codeTo s y ∧ (s = s ∧ s = s ∧ D.slen s = D.slen s ∧ c1 = c1 ∧ c1 = c1 ∧ c3 = c3 ∧ s = s ∧ D.bytes s = D.bytes s ∧ D.ilen
  (D.bytes s) = D.ilen (D.bytes s) ∧ c9 = y ∧ True) ∧ D.nlt (D.nat (D.sub (D.slen s) y)) (D.nat (D.sub (D.slen s) x)))) ∧ (c4 = false → true = isCodeF s ∧
  True)))) :
    evF (mkc K1) (isCodeA s) 126 [.dat S s] [] ⟨True, .dat .bool (isCodeF s), []⟩ := of_eq (by kernel_rfl) hvc
theorem vc_Key (s : ByteArray) (hvc :
  true = true ∧ (True → True ∧ (∃ x, keyTo s x ∧ s = s ∧ kw = kw ∧ (0 : Int) = x ∧ kw = kw ∧ True) ∧ ∀ (x : Int),
 let c1 := D.lt x (D.ilen kw);
 let c2 := D.sEq (D.get kw (D.nat x) (ByteArray.mk (D.nil UInt8).toArray)) s;
 let c3 := D.add x (1 : Int); keyTo s x → (c1 = true → D.ile (0 : Int) x ∧ D.ilt x (D.ilen kw) ∧ (c2 = true → true = isKey s ∧ True) ∧ (c2 = false → inR
  IntKind.i64 c3 ∧ ∃ y, keyTo s y ∧ (s = s ∧ kw = kw ∧ c3 = y ∧ kw = kw ∧ True) ∧ D.nlt (D.nat (D.sub (17 : Int) y)) (D.nat (D.sub (17 : Int) x)))) ∧ (c1 = false
  → false = isKey s ∧ True))) :
    evF (mkc K1) (keyA s) 142 [.dat S s] [] ⟨True, .dat .bool (isKey s), []⟩ := of_eq (by kernel_rfl) hvc
def K2 : Kt := fun f args m => match f, args, m with
  | 104, [.dat (.int .i64) v], [] => some ⟨True, .dat .bool (fromF v 0 1439), []⟩
  | 115, [.dat .str s], [] => some ⟨True, .dat .bool (isNameF s), []⟩
  | 126, [.dat .str s], [] => some ⟨True, .dat .bool (isCodeF s), []⟩
  | 142, [.dat .str s], [] => some ⟨True, .dat .bool (isKey s), []⟩
  | _, _, _ => K1 f args m
theorem vc_Name (s : ByteArray) (hvc :
 let c1 := D.lt (D.slen s) (1 : Int);
 let c2 := D.not c1;
 let c3 := D.cnd c1 true (D.gt (D.slen s) (16 : Int));
 let c4 := D.not c3;
 let c5 := D.byte s (0 : Int);
 let c6 := D.cnd c3 true (D.lt c5 (97 : Int));
 let c7 := D.not c6;
 let c8 := D.cnd c6 true (D.gt c5 (122 : Int));
 let c9 := D.not c8;
 let c10 := D.cnd c8 true (isKey s); true = true ∧ (True → (c2 = true → c2 = true → c2 = true) ∧ (c2 = true → c2 = true → c2 = true) ∧ (D.and true c2 = true → c2
  = true) ∧ (c4 = true → c4 = true → c4 = true) ∧ (c4 = true → D.ile (0 : Int) (0 : Int)) ∧ (c4 = true → D.ilt (0 : Int) (D.slen s)) ∧ (c4 = true → c4 = true →
  c4 = true) ∧ (D.and true c4 = true → c4 = true) ∧ (c7 = true → c7 = true → c7 = true) ∧ (c7 = true → D.ile (0 : Int) (0 : Int)) ∧ (c7 = true → D.ilt (0 : Int)
  (D.slen s)) ∧ (c7 = true → c7 = true → c7 = true) ∧ (D.and true c7 = true → c7 = true) ∧ (c9 = true → c9 = true → c9 = true) ∧ (c9 = true → True) ∧ (D.and true
  c9 = true → c9 = true) ∧ (c10 = true → false = isNameF s ∧ True) ∧ (c10 = false → (∃ x, nameTo s x ∧ s = s ∧ (0 : Int) = x ∧ s = s ∧ D.slen s = D.slen s ∧ c1 =
  c1 ∧ c1 = c1 ∧ c3 = c3 ∧ c3 = c3 ∧ c6 = c6 ∧ c6 = c6 ∧ c8 = c8 ∧ c8 = c8 ∧ c10 = c10 ∧ True) ∧ ∀ (x : Int),
 let c11 := D.lt (D.byte s x) (97 : Int);
 let c12 := D.not c11;
 let c13 := D.cnd c11 true (D.gt (D.byte s x) (122 : Int));
 let c14 := D.cnd c13 (D.not (digitB (D.byte s x))) false;
 let c15 := D.cnd c14 (D.ne (D.byte s x) (95 : Int)) false;
 let c16 := D.add x (1 : Int); nameTo s x → (D.lt x (D.slen s) = true → D.ile (0 : Int) x ∧ D.ilt x (D.slen s) ∧ (c12 = true → c12 = true → c12 = true) ∧ (c12 =
  true → c12 = true → c12 = true) ∧ (c12 = true → D.ile (0 : Int) x) ∧ (c12 = true → D.ilt x (D.slen s)) ∧ (c12 = true → c12 = true → c12 = true) ∧ (D.and true
  c12 = true → c12 = true) ∧ (c13 = true → c13 = true → c13 = true) ∧ (c13 = true → c13 = true → c13 = true) ∧ (c13 = true → D.ile (0 : Int) x) ∧ (c13 = true →
  D.ilt x (D.slen s)) ∧ (c13 = true → c13 = true → c13 = true) ∧ (c13 = true → True) ∧ (c13 = true → c13 = true → c13 = true) ∧ (D.and true c13 = true → c13 =
  true) ∧ (c14 = true → c14 = true → c14 = true) ∧ (c14 = true → c14 = true → c14 = true) ∧ (c14 = true → D.ile (0 : Int) x) ∧ (c14 = true → D.ilt x (D.slen s))
  ∧ (c14 = true → c14 = true → c14 = true) ∧ (D.and true c14 = true → c14 = true) ∧ (c15 = true → false = isNameF s ∧ True) ∧ (c15 = false → inR IntKind.i64 c16
  ∧ ∃ y, nameTo s y ∧ (s = s ∧ c16 = y ∧ s = s ∧ D.slen s = D.slen s ∧ c1 = c1 ∧ c1 = c1 ∧ c3 = c3 ∧ c3 = c3 ∧ c6 = c6 ∧ c6 = c6 ∧ c8 = c8 ∧ c8 = c8 ∧ c10 = c10
  ∧ True) ∧ D.nlt (D.nat (D.sub (D.slen s) y)) (D.nat (D.sub (D.slen s) x)))) ∧ (D.lt x (D.slen s) = false → true = isNameF s ∧ True)))) :
    evF (mkc K2) (rNameA s) 140 [.dat S s] [] ⟨True, .dat .bool (isNameF s), []⟩ := of_eq (by kernel_rfl) hvc
theorem vc_Code (s : ByteArray) (hvc :
 let c1 := D.lt (D.slen s) (1 : Int);
 let c2 := D.not c1;
 let c3 := D.cnd c1 true (D.gt (D.slen s) (8 : Int)); true = true ∧ (True → (c2 = true → c2 = true → c2 = true) ∧ (c2 = true → c2 = true → c2 = true) ∧ (D.and
  true c2 = true → c2 = true) ∧ (c3 = true → false = isCodeF s ∧ True) ∧ (c3 = false → (∃ x, codeTo s x ∧ s = s ∧ (0 : Int) = x ∧ s = s ∧ D.slen s = D.slen s ∧
  c1 = c1 ∧ c1 = c1 ∧ c3 = c3 ∧ True) ∧ ∀ (x : Int),
 let c4 := D.lt (D.byte s x) (65 : Int);
 let c5 := D.not c4;
 let c6 := D.cnd c4 true (D.gt (D.byte s x) (90 : Int));
 let c7 := D.cnd c6 (D.not (digitB (D.byte s x))) false;
 let c8 := D.add x (1 : Int); codeTo s x → (D.lt x (D.slen s) = true → D.ile (0 : Int) x ∧ D.ilt x (D.slen s) ∧ (c5 = true → c5 = true → c5 = true) ∧ (c5 = true
  → c5 = true → c5 = true) ∧ (c5 = true → D.ile (0 : Int) x) ∧ (c5 = true → D.ilt x (D.slen s)) ∧ (c5 = true → c5 = true → c5 = true) ∧ (D.and true c5 = true →
  c5 = true) ∧ (c6 = true → c6 = true → c6 = true) ∧ (c6 = true → c6 = true → c6 = true) ∧ (c6 = true → D.ile (0 : Int) x) ∧ (c6 = true → D.ilt x (D.slen s)) ∧
  (c6 = true → c6 = true → c6 = true) ∧ (c6 = true → True) ∧ (c6 = true → c6 = true → c6 = true) ∧ (D.and true c6 = true → c6 = true) ∧ (c7 = true → false =
  isCodeF s ∧ True) ∧ (c7 = false → inR IntKind.i64 c8 ∧ ∃ y, codeTo s y ∧ (s = s ∧ c8 = y ∧ s = s ∧ D.slen s = D.slen s ∧ c1 = c1 ∧ c1 = c1 ∧ c3 = c3 ∧ True) ∧
  D.nlt (D.nat (D.sub (D.slen s) y)) (D.nat (D.sub (D.slen s) x)))) ∧ (D.lt x (D.slen s) = false → true = isCodeF s ∧ True)))) :
    evF (mkc K2) (rCodeA s) 148 [.dat S s] [] ⟨True, .dat .bool (isCodeF s), []⟩ := of_eq (by kernel_rfl) hvc
theorem cnd_or (x y : Bool) : D.cnd x true y = (x || y) := by cases x <;> rfl
theorem cnd_and (x y : Bool) : D.cnd x y false = (x && y) := by cases x <;> rfl
theorem hm : Tryz.prog.follows .mixedOrders = true := by kernel_rfl
theorem KS0 : KSound Tryz.prog G0 K0 := fun f args m c h => by cases h
theorem KI0s : KISound Tryz.prog G0 KI0 := fun f args c h => by cases h
def ValidP (z : Int) (w : List Bool) (h : List Int) : Prop := (-720 ≤ z ∧ z ≤ 840 ∧ w.length = 7 ∧ h.length ≤ 40) ∧ ∀ i : Nat, i + 1 < h.length → h.getD i 0 < h.getD (i + 1) 0
theorem validF_iff {z : Int} {w : List Bool} {h : List Int} : validF z w h = true ↔ ValidP z w h := by
  unfold validF ValidP
  rw [Bool.and_eq_true, decide_eq_true_eq, List.all_eq_true]
  refine and_congr_right fun _ => ⟨fun g i hi => ?_, fun g i hi => ?_⟩
  · have := g i (List.mem_range.2 (by omega))
    simpa using this
  · have := List.mem_range.1 hi
    simpa using g i (by omega)
theorem validF_not {z : Int} {w : List Bool} {h : List Int} (hn : ¬ ValidP z w h) : false = validF z w h := by
  cases hv : validF z w h with
  | false => rfl
  | true => exact (hn (validF_iff.1 hv)).elim
theorem incTo_one {h : List Int} (hl : ¬ (h.length : Int) > 40) : incTo h 1 := ⟨Int.le_refl _, .inr rfl, by omega, fun i hi => by omega⟩
theorem incTo_next {h : List Int} {x : Int} (hx : incTo h x) (hlt : x < h.length) (hn : h.getD (x - 1).toNat 0 < h.getD x.toNat 0) : incTo h (x + 1) := by
  obtain ⟨g1, g2, g3, g4⟩ := hx
  refine ⟨by omega, by omega, g3, fun i hi => ?_⟩
  by_cases e : (i : Int) + 1 < x
  · exact g4 i e
  · have e1 : (x - 1).toNat = i := by omega
    have e2 : x.toNat = i + 1 := by omega
    rwa [e1, e2] at hn
theorem incTo_not {z : Int} {w : List Bool} {h : List Int} {x : Int} (hx : incTo h x) (hlt : x < h.length) (hn : h.getD x.toNat 0 ≤ h.getD (x - 1).toNat 0) : false = validF z w h := by
  refine validF_not fun hv => ?_
  have := hx.1
  have := hv.2 (x - 1).toNat (by omega)
  rw [show (x - 1).toNat + 1 = x.toNat by omega] at this
  omega
theorem incTo_end {z : Int} {w : List Bool} {h : List Int} {x : Int} (hx : incTo h x) (hge : ¬ x < h.length) (h1 : -720 ≤ z) (h2 : z ≤ 840) (h3 : w.length = 7) : true = validF z w h :=
  (validF_iff.2 ⟨⟨h1, h2, h3, by have := hx.2.2.1; omega⟩, fun i hi => hx.2.2.2 i (by omega)⟩).symm
theorem s_valid (z : Int) (w : List Bool) (h : List Int) : SoundC Tryz.prog G0 69 [cal z w h] [] ⟨True, .dat .bool (validF z w h), []⟩ := by
  refine sound_of_ev (c := mkc K0) KS0 KI0s hm (vc_valid z w h ⟨rfl, fun _ => ?_⟩)
  simp only [cnd_or, D.and, D.not, Bool.true_and, eq_self, true_and, and_true, imp_self, implies_true, Bool.not_eq_true', Bool.or_eq_true, Bool.or_eq_false_iff, exists_eq_right', D.ne, D.lt, D.gt, D.le, D.ilen, D.ile, D.ilt, D.nlt, D.sub, D.add, D.nat, D.get, decide_eq_true_eq, decide_eq_false_iff_not, bne_iff_ne, bne_eq_false_iff_eq]
  refine ⟨fun hb => validF_not fun hv => ?_, fun ⟨⟨⟨h1, h2⟩, h3⟩, h4⟩ => ⟨incTo_one h4, fun x hx => ⟨fun hlt => ?_, fun hge => incTo_end hx hge (by omega) (by omega) (by omega)⟩⟩⟩
  · obtain ⟨⟨g1, g2, g3, g4⟩, _⟩ := hv
    omega
  · have hx1 := hx.1
    have hx3 := hx.2.2.1
    refine ⟨by omega, hlt, ⟨by omega, by omega⟩, by omega, by omega, fun hle => incTo_not hx hlt hle, fun hn => ⟨⟨by omega, by omega⟩, x + 1, incTo_next hx hlt (by omega), rfl, by omega⟩⟩
theorem s_rvalid (z : Int) (w : List Bool) (h : List Int) : SoundC Tryz.prog G0 64 [cal z w h] [] ⟨True, .dat .bool (validF z w h), []⟩ := by
  refine sound_of_ev (c := mkc K0) KS0 KI0s hm (vc_rvalid z w h ⟨rfl, fun _ => ?_⟩)
  simp only [cnd_or, D.and, D.not, Bool.true_and, eq_self, true_and, and_true, imp_self, implies_true, Bool.not_eq_true', Bool.or_eq_true, Bool.or_eq_false_iff, exists_eq_right', D.ne, D.lt, D.gt, D.ge, D.ilen, D.ile, D.ilt, D.nlt, D.sub, D.add, D.nat, D.get, decide_eq_true_eq, decide_eq_false_iff_not, bne_iff_ne, bne_eq_false_iff_eq]
  refine ⟨fun hb => validF_not fun hv => ?_, fun ⟨⟨⟨h1, h2⟩, h3⟩, h4⟩ => ⟨incTo_one h4, fun x hx => ⟨fun hlt => ?_, fun hge => incTo_end hx hge (by omega) (by omega) (by omega)⟩⟩⟩
  · obtain ⟨⟨g1, g2, g3, g4⟩, _⟩ := hv
    omega
  · have hx1 := hx.1
    have hx3 := hx.2.2.1
    refine ⟨⟨by omega, by omega⟩, by omega, by omega, by omega, hlt, fun hle => incTo_not hx hlt hle, fun hn => ⟨⟨by omega, by omega⟩, x + 1, incTo_next hx hlt (by omega), rfl, by omega⟩⟩
theorem s_small (z : Int) (w : List Bool) (h : List Int) : SoundC Tryz.prog G0 33 [cal z w h] [] ⟨True, .dat .bool (smallF w h), []⟩ := by
  refine sound_of_ev (c := mkc K0) KS0 KI0s hm (vc_small z w h ⟨rfl, fun _ => ?_⟩)
  simp only [cnd_and, D.and, Bool.true_and, true_and, and_true, imp_self, implies_true, smallF, D.le, D.ilen]
  congr 1 <;> congr 1 <;> exact propext (by omega)
theorem and_dec (p q : Prop) [Decidable p] [Decidable q] : (decide p && decide q) = decide (p ∧ q) := by by_cases hp : p <;> by_cases hq : q <;> simp [hp, hq]
theorem s_isSmall (b : Int) : SoundC Tryz.prog G0 138 [.dat U b] [] ⟨True, .dat .bool (smallB b), []⟩ := by
  refine sound_of_ev (c := mkc K0) KS0 KI0s hm (vc_isSmall b ⟨rfl, fun _ => ?_⟩)
  simp only [cnd_and, D.and, Bool.true_and, eq_self, and_true, imp_self, implies_true, smallB, D.ge, D.le, and_dec, ge_iff_le]
theorem s_isDigit (b : Int) : SoundC Tryz.prog G0 139 [.dat U b] [] ⟨True, .dat .bool (digitB b), []⟩ := by
  refine sound_of_ev (c := mkc K0) KS0 KI0s hm (vc_isDigit b ⟨rfl, fun _ => ?_⟩)
  simp only [cnd_and, D.and, Bool.true_and, eq_self, and_true, imp_self, implies_true, digitB, D.ge, D.le, and_dec, ge_iff_le]
theorem s_Digit (b : Int) : SoundC Tryz.prog G0 143 [.dat U b] [] ⟨True, .dat .bool (digitB b), []⟩ := by
  refine sound_of_ev (c := mkc K0) KS0 KI0s hm (vc_Digit b ⟨rfl, fun _ => ?_⟩)
  simp only [cnd_and, D.and, Bool.true_and, eq_self, and_true, imp_self, implies_true, digitB, D.ge, D.le, and_dec, ge_iff_le]
theorem s_isFrom (v a b : Int) : SoundC Tryz.prog G0 127 [.dat I v, .dat I a, .dat I b] [] ⟨True, .dat .bool (fromF v a b), []⟩ := by
  refine sound_of_ev (c := mkc K0) KS0 KI0s hm (vc_isFrom v a b ⟨rfl, fun _ => ?_⟩)
  simp only [cnd_and, D.and, Bool.true_and, eq_self, and_true, imp_self, implies_true, fromF, D.ge, D.le, and_dec, ge_iff_le]
theorem s_between (v a b : Int) : SoundC Tryz.prog G0 146 [.dat I v, .dat I a, .dat I b] [] ⟨True, .dat .bool (fromF v a b), []⟩ := by
  refine sound_of_ev (c := mkc K0) KS0 KI0s hm (vc_between v a b ⟨rfl, fun _ => ?_⟩)
  simp only [cnd_and, D.and, Bool.true_and, eq_self, and_true, imp_self, implies_true, fromF, D.ge, D.le, and_dec, ge_iff_le]
theorem s_limit (k : Int) : SoundC Tryz.prog G0 135 [.dat I k] [] ⟨True, .dat I (limitF k), []⟩ := by
  refine sound_of_ev (c := mkc K0) KS0 KI0s hm (vc_limit k ⟨rfl, fun _ => ?_⟩)
  simp only [and_true, D.eq, beq_iff_eq, beq_eq_false_iff_ne, limitF]
  refine ⟨fun h => by rw [if_pos h], fun h1 => ⟨fun h => by rw [if_neg h1, if_pos h], fun h2 => ⟨fun h => by rw [if_neg h1, if_neg h2, if_pos h], fun h => by rw [if_neg h1, if_neg h2, if_neg h]⟩⟩⟩
theorem s_keys : SoundC Tryz.prog G0 147 [] [] ⟨True, .dat (.sl S) kw, []⟩ :=
  sound_of_ev (c := mkc K0) KS0 KI0s hm (vc_keys ⟨rfl, fun _ => ⟨rfl, trivial⟩⟩)
theorem KS1 : KSound Tryz.prog G0 K1 := by
  intro f args m c h
  unfold K1 at h
  split at h
  · cases h; exact s_valid _ _ _
  · cases h; exact s_rvalid _ _ _
  · cases h; exact s_small _ _ _
  · cases h; exact s_isSmall _
  · cases h; exact s_isDigit _
  · cases h; exact s_Digit _
  · cases h; exact s_isFrom _ _ _
  · cases h; exact s_between _ _ _
  · cases h; exact s_limit _
  · cases h; exact s_keys
  · cases h
theorem bytes_getD (s : ByteArray) (i : Nat) : (D.bytes s).getD i 0 = ((s.data.getD i 0).toNat : Int) := by
  show (List.map (fun b : UInt8 => (b.toNat : Int)) s.data.toList).getD i 0 = _
  rw [List.getD_eq_getElem?_getD, List.getElem?_map, Array.getElem?_toList, Array.getD_eq_getD_getElem?]
  cases s.data[i]? <;> rfl
theorem bytes_get (s : ByteArray) (x : Int) : (D.bytes s).getD x.toNat 0 = D.byte s x := bytes_getD s x.toNat
theorem bytes_length (s : ByteArray) : (D.bytes s).length = s.size := by
  show (List.map _ s.data.toList).length = s.data.size
  rw [List.length_map, Array.length_toList]
theorem data_len (s : ByteArray) : s.data.toList.length = s.size := Array.length_toList
theorem allTo_next {α : Type} {l : List α} {p : α → Bool} {d : α} {k : Nat} (h : (l.take k).all p = true) (hk : k < l.length) (hp : p (l.getD k d) = true) : (l.take (k + 1)).all p = true := by
  rw [List.take_add_one, List.getElem?_eq_getElem hk, List.all_append, h]
  rw [List.getD_eq_getElem?_getD, List.getElem?_eq_getElem hk] at hp
  simpa using hp
theorem all_not {α : Type} {l : List α} {p : α → Bool} {d : α} {k : Nat} (hk : k < l.length) (hp : p (l.getD k d) = false) : l.all p = false := by
  rw [List.getD_eq_getElem?_getD, List.getElem?_eq_getElem hk] at hp
  rw [List.all_eq_false]
  exact ⟨l[k], List.getElem_mem hk, by simpa using hp⟩
theorem any_is {α : Type} {l : List α} {p : α → Bool} {d : α} {k : Nat} (hk : k < l.length) (hp : p (l.getD k d) = true) : l.any p = true := by
  rw [List.getD_eq_getElem?_getD, List.getElem?_eq_getElem hk] at hp
  exact List.any_eq_true.2 ⟨l[k], List.getElem_mem hk, by simpa using hp⟩
theorem anyTo_next {α : Type} {l : List α} {p : α → Bool} {d : α} {k : Nat} (h : (l.take k).any p = false) (hk : k < l.length) (hp : p (l.getD k d) = false) : (l.take (k + 1)).any p = false := by
  rw [List.take_add_one, List.getElem?_eq_getElem hk, List.any_append, h]
  rw [List.getD_eq_getElem?_getD, List.getElem?_eq_getElem hk] at hp
  simpa using hp
theorem data_getD (s : ByteArray) (i : Nat) : s.data.toList.getD i 0 = s.data.getD i 0 := by
  rw [List.getD_eq_getElem?_getD, Array.getElem?_toList, Array.getD_eq_getD_getElem?]
theorem nameTo_zero (s : ByteArray) : nameTo s 0 := ⟨Int.le_refl _, Int.natCast_nonneg _, by simp⟩
theorem codeTo_zero (s : ByteArray) : codeTo s 0 := ⟨Int.le_refl _, Int.natCast_nonneg _, by simp⟩
theorem keyTo_zero (s : ByteArray) : keyTo s 0 := ⟨Int.le_refl _, by decide, by simp⟩
theorem nameTo_next {s : ByteArray} {x : Int} (h : nameTo s x) (hx : x < s.size) (hp : nameB (D.byte s x) = true) : nameTo s (x + 1) := by
  obtain ⟨h0, h1, h2⟩ := h
  refine ⟨by omega, by omega, ?_⟩
  rw [show (x + 1).toNat = x.toNat + 1 by omega]
  exact allTo_next (d := 0) h2 (by rw [data_len]; omega) (by rw [data_getD]; exact hp)
theorem codeTo_next {s : ByteArray} {x : Int} (h : codeTo s x) (hx : x < s.size) (hp : codeB (D.byte s x) = true) : codeTo s (x + 1) := by
  obtain ⟨h0, h1, h2⟩ := h
  refine ⟨by omega, by omega, ?_⟩
  rw [show (x + 1).toNat = x.toNat + 1 by omega]
  exact allTo_next (d := 0) h2 (by rw [data_len]; omega) (by rw [data_getD]; exact hp)
theorem nameTo_end {s : ByteArray} {x : Int} (h : nameTo s x) (hx : ¬ x < s.size) : (s.data.toList.all fun b => nameB (b.toNat : Int)) = true := by
  obtain ⟨h0, h1, h2⟩ := h
  rwa [List.take_of_length_le (by rw [data_len]; omega)] at h2
theorem codeTo_end {s : ByteArray} {x : Int} (h : codeTo s x) (hx : ¬ x < s.size) : (s.data.toList.all fun b => codeB (b.toNat : Int)) = true := by
  obtain ⟨h0, h1, h2⟩ := h
  rwa [List.take_of_length_le (by rw [data_len]; omega)] at h2
theorem name_bad {s : ByteArray} {x : Int} (h : nameTo s x) (hx : x < s.size) (hp : nameB (D.byte s x) = false) : (s.data.toList.all fun b => nameB (b.toNat : Int)) = false :=
  all_not (d := 0) (k := x.toNat) (by rw [data_len]; have := h.1; omega) (by rw [data_getD]; exact hp)
theorem code_bad {s : ByteArray} {x : Int} (h : codeTo s x) (hx : x < s.size) (hp : codeB (D.byte s x) = false) : (s.data.toList.all fun b => codeB (b.toNat : Int)) = false :=
  all_not (d := 0) (k := x.toNat) (by rw [data_len]; have := h.1; omega) (by rw [data_getD]; exact hp)
theorem keyTo_next {s : ByteArray} {x : Int} (h : keyTo s x) (hx : x < 17) (hp : s.toList ≠ (kw.getD x.toNat ⟨#[]⟩).toList) : keyTo s (x + 1) := by
  obtain ⟨h0, h1, h2⟩ := h
  refine ⟨by omega, by omega, ?_⟩
  rw [show (x + 1).toNat = x.toNat + 1 by omega]
  exact anyTo_next (d := ⟨#[]⟩) h2 (by show x.toNat < 17; omega) (by simpa using fun e => hp e.symm)
theorem key_is {s : ByteArray} {x : Int} (h : keyTo s x) (hx : x < 17) (hp : s.toList = (kw.getD x.toNat ⟨#[]⟩).toList) : isKey s = true :=
  any_is (d := ⟨#[]⟩) (k := x.toNat) (by have := h.1; show x.toNat < 17; omega) (by simpa using hp.symm)
theorem keyTo_end {s : ByteArray} {x : Int} (h : keyTo s x) (hx : ¬ x < 17) : isKey s = false := by
  obtain ⟨h0, h1, h2⟩ := h
  have : x = 17 := by omega
  subst this
  exact h2
theorem name_no {s : ByteArray} (h : isNameF s = true → False) : false = isNameF s := by
  cases e : isNameF s with
  | false => rfl
  | true => exact (h e).elim
theorem code_no {s : ByteArray} (h : isCodeF s = true → False) : false = isCodeF s := by
  cases e : isCodeF s with
  | false => rfl
  | true => exact (h e).elim
theorem isNameF_iff {s : ByteArray} : isNameF s = true ↔ (1 ≤ s.size ∧ s.size ≤ 16) ∧ smallB (D.byte s 0) = true ∧ (s.data.toList.all fun b => nameB (b.toNat : Int)) = true ∧ isKey s = false := by
  unfold isNameF
  simp only [Bool.and_eq_true, decide_eq_true_eq, Bool.not_eq_true', and_assoc]
  exact Iff.rfl
theorem isCodeF_iff {s : ByteArray} : isCodeF s = true ↔ (1 ≤ s.size ∧ s.size ≤ 8) ∧ (s.data.toList.all fun b => codeB (b.toNat : Int)) = true := by
  unfold isCodeF
  simp only [Bool.and_eq_true, decide_eq_true_eq]
theorem nameB_false {b : Int} (h1 : smallB b = false) (h2 : digitB b = false) (h3 : b ≠ 95) : nameB b = false := by simp [nameB, h1, h2, h3]
theorem s_isMinute (v : Int) : SoundC Tryz.prog G0 104 [.dat I v] [] ⟨True, .dat .bool (fromF v 0 1439), []⟩ :=
  sound_of_ev (c := mkc K1) KS1 KI0s hm (vc_isMinute v ⟨rfl, fun _ => ⟨trivial, rfl, trivial⟩⟩)
theorem nameB_of {b : Int} (h : smallB b = false → digitB b = false → b = 95) : nameB b = true := by
  unfold nameB
  cases q1 : smallB b with
  | true => rfl
  | false => cases q2 : digitB b with
    | true => rfl
    | false => simpa using h q1 q2
theorem codeB_of {b : Int} (h : digitB b = false → 65 ≤ b ∧ b ≤ 90) : codeB b = true := by
  unfold codeB
  cases q1 : digitB b with
  | true => rfl
  | false => simpa using h q1
theorem codeB_false {b : Int} (h1 : digitB b = false) (h2 : b < 65 ∨ b > 90) : codeB b = false := by
  unfold codeB; rw [h1]; simp; omega
theorem smallB_true {b : Int} (h1 : ¬ b < 97) (h2 : ¬ b > 122) : smallB b = true := decide_eq_true (by omega)
theorem smallB_false {b : Int} (h : b < 97 ∨ b > 122) : smallB b = false := decide_eq_false (by omega)
theorem s_isName (s : ByteArray) : SoundC Tryz.prog G0 115 [.dat S s] [] ⟨True, .dat .bool (isNameF s), []⟩ := by
  refine sound_of_ev (c := mkc K1) KS1 KI0s hm (vc_isName s ⟨rfl, fun _ => ?_⟩)
  simp only [cnd_or, cnd_and, D.and, D.not, Bool.true_and, eq_self, true_and, and_true, imp_self, implies_true, Bool.not_eq_true', Bool.or_eq_true, Bool.or_eq_false_iff, Bool.not_eq_false', Bool.and_eq_true, Bool.and_eq_false_imp, exists_eq_right', D.nil, D.ne, D.lt, D.gt, D.ilen, D.slen, D.ile, D.ilt, D.nlt, D.sub, D.add, D.nat, D.ofN, D.len, D.get, decide_eq_true_eq, decide_eq_false_iff_not, beq_iff_eq, bne_iff_ne, beq_eq_false_iff_ne, bne_eq_false_iff_eq, bytes_get, bytes_length]
  refine ⟨fun _ => Int.le_refl _, fun h => by omega, fun h => name_no fun g => ?_, fun ⟨⟨h1, h2⟩, h3⟩ => ⟨nameTo_zero s, fun x hx => ⟨fun hlt => ?_, fun hge => ?_⟩⟩⟩
  · rw [isNameF_iff] at g
    rcases h with h | h
    · omega
    · rw [g.2.1] at h; cases h
  · refine ⟨hx.1, hlt, fun ⟨⟨b1, b2⟩, b3⟩ => name_no fun g => ?_, fun hb => ⟨⟨by have := hx.1; omega, by omega⟩, x + 1, nameTo_next hx hlt (nameB_of fun q1 q2 => hb ⟨q1, q2⟩), rfl, by have := hx.1; omega⟩⟩
    have := name_bad hx hlt (nameB_false b1 b2 b3)
    rw [(isNameF_iff.1 g).2.2.1] at this; cases this
  · refine ⟨rfl, keyTo_zero s, fun y hy => ⟨fun hlt => ⟨hy.1, by omega, rfl, fun he => name_no fun g => ?_, fun hne => ⟨⟨by have := hy.1; omega, by omega⟩, y + 1, keyTo_next hy hlt hne, rfl, by have := hy.1; omega⟩⟩, fun hge2 => (isNameF_iff.2 ⟨by omega, h3, nameTo_end hx hge, keyTo_end hy hge2⟩).symm⟩⟩
    have := key_is hy hlt he
    rw [(isNameF_iff.1 g).2.2.2] at this; cases this
theorem s_isCode (s : ByteArray) : SoundC Tryz.prog G0 126 [.dat S s] [] ⟨True, .dat .bool (isCodeF s), []⟩ := by
  refine sound_of_ev (c := mkc K1) KS1 KI0s hm (vc_isCode s ⟨rfl, fun _ => ?_⟩)
  simp only [cnd_or, cnd_and, D.and, D.not, Bool.true_and, eq_self, true_and, and_true, imp_self, implies_true, Bool.not_eq_true', Bool.or_eq_true, Bool.or_eq_false_iff, Bool.and_eq_true, Bool.and_eq_false_imp, exists_eq_right', D.lt, D.gt, D.ilen, D.slen, D.ile, D.ilt, D.nlt, D.sub, D.add, D.nat, D.get, decide_eq_true_eq, decide_eq_false_iff_not, bytes_get, bytes_length]
  refine ⟨fun h => code_no fun g => by rw [isCodeF_iff] at g; omega, fun ⟨h1, h2⟩ => ⟨codeTo_zero s, fun x hx => ⟨fun hlt => ?_, fun hge => (isCodeF_iff.2 ⟨by omega, codeTo_end hx hge⟩).symm⟩⟩⟩
  refine ⟨hx.1, hlt, fun ⟨b1, b2⟩ => code_no fun g => ?_, fun hb => ⟨⟨by have := hx.1; omega, by omega⟩, x + 1, codeTo_next hx hlt (codeB_of fun q1 => by have := hb q1; omega), rfl, by have := hx.1; omega⟩⟩
  have := code_bad hx hlt (codeB_false b1 b2)
  rw [(isCodeF_iff.1 g).2] at this; cases this
theorem s_Key (s : ByteArray) : SoundC Tryz.prog G0 142 [.dat S s] [] ⟨True, .dat .bool (isKey s), []⟩ := by
  refine sound_of_ev (c := mkc K1) KS1 KI0s hm (vc_Key s ⟨rfl, fun _ => ?_⟩)
  simp only [eq_self, true_and, and_true, exists_eq_right', D.nil, D.lt, D.ilen, D.ile, D.ilt, D.nlt, D.sub, D.add, D.nat, D.get, decide_eq_true_eq, decide_eq_false_iff_not, beq_iff_eq, beq_eq_false_iff_ne]
  have hl : (kw.length : Int) = 17 := rfl
  refine ⟨keyTo_zero s, fun y hy => ⟨fun hlt => ⟨hy.1, hlt, fun he => (key_is hy (by omega) he.symm).symm, fun hne => ⟨⟨by have := hy.1; omega, by omega⟩, y + 1, keyTo_next hy (by omega) (fun e => hne e.symm), rfl, by have := hy.1; omega⟩⟩, fun hge => (keyTo_end hy (by omega)).symm⟩⟩
theorem KS2 : KSound Tryz.prog G0 K2 := by
  intro f args m c h
  unfold K2 at h
  split at h
  · cases h; exact s_isMinute _
  · cases h; exact s_isName _
  · cases h; exact s_isCode _
  · cases h; exact s_Key _
  · exact KS1 _ _ _ _ h
theorem s_Name (s : ByteArray) : SoundC Tryz.prog G0 140 [.dat S s] [] ⟨True, .dat .bool (isNameF s), []⟩ := by
  refine sound_of_ev (c := mkc K2) KS2 KI0s hm (vc_Name s ⟨rfl, fun _ => ?_⟩)
  simp only [cnd_or, cnd_and, D.and, D.not, Bool.true_and, eq_self, true_and, and_true, imp_self, implies_true, Bool.not_eq_true', Bool.or_eq_true, Bool.or_eq_false_iff, Bool.and_eq_true, Bool.and_eq_false_imp, exists_eq_right', D.ne, D.lt, D.gt, D.slen, D.ile, D.ilt, D.nlt, D.sub, D.add, D.nat, decide_eq_true_eq, decide_eq_false_iff_not, bne_iff_ne, bne_eq_false_iff_eq]
  refine ⟨fun _ => Int.le_refl _, fun h => by omega, fun _ => Int.le_refl _, fun h => by omega, fun h => name_no fun g => ?_, fun ⟨⟨⟨⟨h1, h2⟩, h3⟩, h4⟩, h5⟩ => ⟨nameTo_zero s, fun x hx => ⟨fun hlt => ?_, fun hge => (isNameF_iff.2 ⟨by omega, smallB_true h3 h4, nameTo_end hx hge, h5⟩).symm⟩⟩⟩
  · obtain ⟨g1, g2, g3, g4⟩ := isNameF_iff.1 g
    have g2' := of_decide_eq_true g2
    rcases h with h | h
    · omega
    · rw [g4] at h; cases h
  · refine ⟨hx.1, hlt, fun _ => hx.1, fun _ => hlt, fun _ => hx.1, fun _ => hlt, fun _ => hx.1, fun _ => hlt, fun ⟨⟨b1, b2⟩, b3⟩ => name_no fun g => ?_, fun hb => ⟨⟨by have := hx.1; omega, by omega⟩, x + 1, nameTo_next hx hlt (nameB_of fun q1 q2 => hb ⟨?_, q2⟩), rfl, by have := hx.1; omega⟩⟩
    · have := name_bad hx hlt (nameB_false (smallB_false b1) b2 b3)
      rw [(isNameF_iff.1 g).2.2.1] at this; cases this
    · have := of_decide_eq_false q1
      omega
theorem s_Code (s : ByteArray) : SoundC Tryz.prog G0 148 [.dat S s] [] ⟨True, .dat .bool (isCodeF s), []⟩ := by
  refine sound_of_ev (c := mkc K2) KS2 KI0s hm (vc_Code s ⟨rfl, fun _ => ?_⟩)
  simp only [cnd_or, cnd_and, D.and, D.not, Bool.true_and, eq_self, true_and, and_true, imp_self, implies_true, Bool.not_eq_true', Bool.or_eq_true, Bool.or_eq_false_iff, Bool.not_eq_false', Bool.and_eq_true, Bool.and_eq_false_imp, exists_eq_right', D.lt, D.gt, D.slen, D.ile, D.ilt, D.nlt, D.sub, D.add, D.nat, decide_eq_true_eq, decide_eq_false_iff_not]
  refine ⟨fun h => code_no fun g => by rw [isCodeF_iff] at g; omega, fun ⟨h1, h2⟩ => ⟨codeTo_zero s, fun x hx => ⟨fun hlt => ?_, fun hge => (isCodeF_iff.2 ⟨by omega, codeTo_end hx hge⟩).symm⟩⟩⟩
  refine ⟨hx.1, hlt, fun _ => hx.1, fun _ => hlt, fun _ => hx.1, fun _ => hlt, fun ⟨b1, b2⟩ => code_no fun g => ?_, fun hb => ⟨⟨by have := hx.1; omega, by omega⟩, x + 1, codeTo_next hx hlt (codeB_of fun q1 => ?_), rfl, by have := hx.1; omega⟩⟩
  · have := code_bad hx hlt (codeB_false b2 b1)
    rw [(isCodeF_iff.1 g).2] at this; cases this
  · by_cases hq : D.byte s x < 65 ∨ D.byte s x > 90
    · have := hb hq; rw [q1] at this; cases this
    · omega
end Go.Eng.Sv
