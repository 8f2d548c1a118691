/- PeMp2 -/
import Derived.Test.YthdihjmpibfmgaaEng18
import Derived.Test.YthdihjmpibfmgaaMp1
namespace Go.Eng.Mp
open Go.Proofs

noncomputable def buildF (g : Int → Int → Int) (n : Int) : List (List Int) := (List.range n.toNat).map fun i : Nat => (List.range n.toNat).map fun j : Nat => g i j
noncomputable def rowsF (g : Int → Int → Int) (n i : Int) : List (List Int) := (buildF g n).take i.toNat ++ List.replicate (n.toNat - i.toNat) []
noncomputable def rowF (g : Int → Int → Int) (n i j : Int) : List Int := ((List.range n.toNat).map fun j : Nat => g i j).take j.toNat ++ List.replicate (n.toNat - j.toNat) 0
noncomputable def preBuild (n : Int) (preT : Int → Int → Prop) : Prop := 0 ≤ n ∧ n ≤ 1000000 ∧ ∀ i j, 0 ≤ i → i < n → 0 ≤ j → j < n → preT i j
noncomputable def within (k n : Int) : Prop := 0 ≤ k ∧ k < n

noncomputable def buildA (n : Int) (g : Int → Int → Int) : Ann := ⟨fun id s => match id with
  | 3 => some { α := Int, inv := fun k => upto k n, st := fun k => putM (put s [(11, .dat I k), (5, .buf 0 (D.nat n))]) 0 (.buf 23 R (rowsF g n k) []), μ := fun k => D.nat (D.sub n k) }
  | 7 => match s.sig.T 6 with
    | .dat (.int .i64) i => some { α := Int, inv := fun k => upto k n, st := fun k => putM (put s [(20, .dat I k)]) 1 (.buf 3 I (rowF g n i k) []), μ := fun k => D.nat (D.sub n k) }
    | _ => none
  | _ => none, fun _ _ => none, fun _ _ => none⟩

theorem vc_build (n : Int) (preT : Int → Int → Prop) (g : Int → Int → Int) (h :
     true = true ∧ true = true ∧ (preBuild n preT → D.ile (0 : Int) n ∧ D.ile (D.mul (D.ofN (24)) n) (281474976710656 : Int) ∧ D.ile n
    (9223372036854775807 : Int) ∧ (∃ x, upto x n ∧ n = n ∧ AV.clo2 (Ty.int IntKind.i64) (Ty.int IntKind.i64) (Ty.int IntKind.i64) preT g = AV.clo2 (Ty.int
    IntKind.i64) (Ty.int IntKind.i64) (Ty.int IntKind.i64) preT g ∧ Value.slice none (0) (0) = Value.slice none (0) (0) ∧ D.nat n = D.nat n ∧ n = n ∧ D.nat n =
    D.nat n ∧ n = n ∧ (0 : Int) = x ∧ D.rep n (D.nil Int) = rowsF g n x ∧ True) ∧ ∀ (x : Int), upto x n → (D.lt x n = true → D.ile (0 : Int) n ∧ D.ile (D.mul (D.ofN
    (8)) n) (281474976710656 : Int) ∧ D.ile n (9223372036854775807 : Int) ∧ D.len (rowsF g n x) = D.nat n ∧ D.ile (0 : Int) x ∧ D.ilt x (D.ofN (D.len (rowsF g n
    x))) ∧ D.len (rowsF g n x) = D.nat n ∧ D.len (D.rep n (0 : Int)) = D.nat n ∧ (∃ x_3, upto x_3 n ∧ n = n ∧ AV.clo2 (Ty.int IntKind.i64) (Ty.int IntKind.i64)
    (Ty.int IntKind.i64) preT g = AV.clo2 (Ty.int IntKind.i64) (Ty.int IntKind.i64) (Ty.int IntKind.i64) preT g ∧ Value.slice none (0) (0) = Value.slice none (0)
    (0) ∧ D.nat n = D.nat n ∧ x = x ∧ n = n ∧ D.nat n = D.nat n ∧ n = n ∧ x = x ∧ D.lt x n = D.lt x n ∧ x = x ∧ D.nat n = D.nat n ∧ x = x ∧ n = n ∧ D.nat n = D.nat
    n ∧ D.nat n = D.nat n ∧ D.nat x = D.nat x ∧ 0 = 0 ∧ n = n ∧ (0 : Int) = x_3 ∧ rowsF g n x = rowsF g n x ∧ D.nat x = D.nat x ∧ D.nat n = D.nat n ∧ D.rep n (0 :
    Int) = rowF g n x x_3 ∧ True) ∧ ∀ (x_3 : Int), upto x_3 n → (D.lt x_3 n = true → D.len (rowsF g n x) = D.nat n ∧ D.ile (0 : Int) x ∧ D.ilt x (D.ofN (D.len
    (rowsF g n x))) ∧ D.len (rowsF g n x) = D.nat n ∧ D.nat x = D.nat x ∧ preT x x_3 ∧ D.len (rowF g n x x_3) = D.nat n ∧ D.ile (0 : Int) x_3 ∧ D.ilt x_3 (D.ofN
    (D.len (rowF g n x x_3))) ∧ D.len (rowF g n x x_3) = D.nat n ∧ inR IntKind.i64 (D.add x_3 (1 : Int)) ∧ ∃ y, upto y n ∧ (n = n ∧ AV.clo2 (Ty.int IntKind.i64)
    (Ty.int IntKind.i64) (Ty.int IntKind.i64) preT g = AV.clo2 (Ty.int IntKind.i64) (Ty.int IntKind.i64) (Ty.int IntKind.i64) preT g ∧ Value.slice none (0) (0) =
    Value.slice none (0) (0) ∧ D.nat n = D.nat n ∧ x = x ∧ n = n ∧ D.nat n = D.nat n ∧ n = n ∧ x = x ∧ D.lt x n = D.lt x n ∧ x = x ∧ D.nat n = D.nat n ∧ x = x ∧ n =
    n ∧ D.nat n = D.nat n ∧ D.nat n = D.nat n ∧ D.nat x = D.nat x ∧ 0 = 0 ∧ n = n ∧ D.add x_3 (1 : Int) = y ∧ rowsF g n x = rowsF g n x ∧ D.nat x = D.nat x ∧ D.nat
    n = D.nat n ∧ D.set (rowF g n x x_3) (D.nat x_3) (g x x_3) = rowF g n x y ∧ True) ∧ D.nlt (D.nat (D.sub n y)) (D.nat (D.sub n x_3))) ∧ (D.lt x_3 n = false → inR
    IntKind.i64 (D.add x (1 : Int)) ∧ ∃ y, upto y n ∧ (n = n ∧ AV.clo2 (Ty.int IntKind.i64) (Ty.int IntKind.i64) (Ty.int IntKind.i64) preT g = AV.clo2 (Ty.int
    IntKind.i64) (Ty.int IntKind.i64) (Ty.int IntKind.i64) preT g ∧ Value.slice none (0) (0) = Value.slice none (0) (0) ∧ D.nat n = D.nat n ∧ n = n ∧ D.nat n =
    D.nat n ∧ n = n ∧ D.add x (1 : Int) = y ∧ D.len (rowF g n x x_3) = D.nat n ∧ D.set (rowsF g n x) (D.nat x) (rowF g n x x_3) = rowsF g n y ∧ True) ∧ D.nlt (D.nat
    (D.sub n y)) (D.nat (D.sub n x)))) ∧ (D.lt x n = false → D.len (rowsF g n x) = D.nat n ∧ rowsF g n x = buildF g n ∧ True))) :
    evF c0 (buildA n g) 32 [.dat I n, .clo2 I I I preT g] ⟨preBuild n preT, .dat M (buildF g n)⟩ := of_eq (by kernel_rfl) h

theorem fill_set {α : Type} (xs : List α) (d v : α) (k : Nat) (hk : xs[k]? = some v) : (xs.take k ++ List.replicate (xs.length - k) d).set k v = xs.take (k + 1) ++ List.replicate (xs.length - (k + 1)) d := by
  obtain ⟨h, e⟩ := List.getElem?_eq_some_iff.1 hk
  have e2 : xs.length - k = (xs.length - (k + 1)) + 1 := by omega
  rw [e2, List.replicate_succ, List.set_append_right _ _ (by simp; omega)]
  simp [List.take_add_one, hk, Nat.min_eq_left (Nat.le_of_lt h)]
theorem buildF_length (g : Int → Int → Int) (n : Int) : (buildF g n).length = n.toNat := by simp [buildF]
theorem rowsF_len (g : Int → Int → Int) (n x : Int) (h : upto x n) : (rowsF g n x).length = n.toNat := by
  have := h.1; have := h.2
  simp only [rowsF, List.length_append, List.length_take, List.length_replicate, buildF_length]; omega
theorem rowF_len (g : Int → Int → Int) (n i x : Int) (h : upto x n) : (rowF g n i x).length = n.toNat := by
  have := h.1; have := h.2
  simp only [rowF, List.length_append, List.length_take, List.length_replicate, List.length_map, List.length_range]; omega
theorem rowsF_zero (g : Int → Int → Int) (n : Int) : rowsF g n 0 = List.replicate n.toNat [] := by simp [rowsF]
theorem rowF_zero (g : Int → Int → Int) (n i : Int) : rowF g n i 0 = List.replicate n.toNat 0 := by simp [rowF]
theorem rowF_succ (g : Int → Int → Int) (n i j : Int) (h0 : 0 ≤ j) (h1 : j < n) : (rowF g n i j).set j.toNat (g i j) = rowF g n i (j + 1) := by
  have e : (j + 1).toNat = j.toNat + 1 := by omega
  have := fill_set ((List.range n.toNat).map fun j : Nat => g i j) 0 (g i j) j.toNat (by
    rw [List.getElem?_map, List.getElem?_range (by omega)]; simp [Int.toNat_of_nonneg h0])
  simp only [List.length_map, List.length_range] at this
  unfold rowF; rw [e]; exact this
theorem rowF_end (g : Int → Int → Int) (n i j : Int) (h : upto j n) (h1 : ¬ j < n) : rowF g n i j = (List.range n.toNat).map fun j : Nat => g i j := by
  have := h.1; have := h.2
  have e : j.toNat = n.toNat := by omega
  unfold rowF
  rw [e, List.take_of_length_le (by simp)]; simp
theorem rowsF_succ (g : Int → Int → Int) (n i j : Int) (h0 : 0 ≤ i) (h1 : i < n) (h : upto j n) (h2 : ¬ j < n) : (rowsF g n i).set i.toNat (rowF g n i j) = rowsF g n (i + 1) := by
  have e : (i + 1).toNat = i.toNat + 1 := by omega
  rw [rowF_end g n i j h h2]
  have := fill_set (buildF g n) [] ((List.range n.toNat).map fun j : Nat => g i j) i.toNat (by
    unfold buildF
    rw [List.getElem?_map, List.getElem?_range (by omega)]; simp [Int.toNat_of_nonneg h0])
  rw [buildF_length] at this
  unfold rowsF; rw [e]; exact this
theorem rowsF_end (g : Int → Int → Int) (n i : Int) (h : upto i n) (h1 : ¬ i < n) : rowsF g n i = buildF g n := by
  have := h.1; have := h.2
  have e : i.toNat = n.toNat := by omega
  unfold rowsF
  rw [e, List.take_of_length_le (by rw [buildF_length]; exact Nat.le_refl _)]; simp

theorem s_build (n : Int) (preT : Int → Int → Prop) (g : Int → Int → Int) : SoundC Try.prog 32 [.dat I n, .clo2 I I I preT g] ⟨preBuild n preT, .dat M (buildF g n)⟩ := by
  refine sound_of_ev (c := c0) KS0 hm (vc_build n preT g ⟨rfl, rfl, fun hp => ?_⟩)
  obtain ⟨p1, p2, p3⟩ := hp
  refine ⟨p1, by simp only [D.ile, D.mul, D.ofN]; omega, by simp only [D.ile]; omega, ⟨0, ⟨by omega, .inr rfl⟩, ?_⟩, fun x hx => ⟨fun hlt => ?_, fun hge => ?_⟩⟩
  · simp [rowsF_zero]
  · have hlt : x < n := by simpa using hlt
    have h0 := hx.1
    have hl := rowsF_len g n x hx
    refine ⟨p1, by simp only [D.ile, D.mul, D.ofN]; omega, by simp only [D.ile]; omega, hl, h0, by simp only [D.ilt, D.ofN, D.len]; omega, hl, by simp, ⟨0, ⟨by omega, .inr rfl⟩, ?_⟩, fun y hy => ⟨fun hlt2 => ?_, fun hge => ?_⟩⟩
    · simp [rowF_zero]
    · have hlt2 : y < n := by simpa using hlt2
      have h2 := hy.1
      have hl2 := rowF_len g n x y hy
      refine ⟨hl, h0, by simp only [D.ilt, D.ofN, D.len]; omega, hl, rfl, p3 x y h0 hlt h2 hlt2, hl2, h2, by simp only [D.ilt, D.ofN, D.len]; omega, hl2, by simp only [inR, D.add]; omega, y + 1, ⟨by omega, .inl (by omega)⟩, ?_, ?_⟩
      · simp [rowF_succ g n x y h2 hlt2]
      · simp only [D.nlt, D.nat, D.sub]; omega
    · have hge : ¬ y < n := by simpa using hge
      refine ⟨by simp only [inR, D.add]; omega, x + 1, ⟨by omega, .inl (by omega)⟩, ?_, ?_⟩
      · simp [rowsF_succ g n x y h0 hlt hy hge, rowF_len g n x y hy]
      · simp only [D.nlt, D.nat, D.sub]; omega
  · have hge : ¬ x < n := by simpa using hge
    exact ⟨rowsF_len g n x hx, rowsF_end g n x hx hge, trivial⟩
end Go.Eng.Mp
