/- PeMp3 -/
import Derived.Test.YthdihjmpibfmgaaEng18
import Derived.Test.YthdihjmpibfmgaaMp2
namespace Go.Eng.Mp
open Go.Proofs

noncomputable def rowBad (m : List (List Int)) (row : List Int) : Bool := decide ((row.length : Int) ≠ m.length) || wrongF row
noncomputable def validF (m : List (List Int)) : Bool := !decide ((m.length : Int) > 40) && !m.any (rowBad m)
noncomputable def okTo (m : List (List Int)) (k : Int) : Prop := 0 ≤ k ∧ k ≤ m.length ∧ m.length ≤ 40 ∧ (m.take k.toNat).any (rowBad m) = false
noncomputable def alikeF (a b : List (List Int)) : Bool := bif validF a then bif validF b then decide ((a.length : Int) = b.length) else false else false
noncomputable def idx2 (i j : Int) (a : List (List Int)) : Prop := 0 ≤ i ∧ i < (a.length : Int) ∧ idx j (a.getD i.toNat [])
noncomputable def at2 (a : List (List Int)) (i j : Int) : Int := (a.getD i.toNat []).getD j.toNat 0
noncomputable def plus2 (a b : List (List Int)) (i j : Int) : Int := plusF (at2 a i j) (at2 b i j)
noncomputable def sumF (a b : List (List Int)) : List (List Int) := bif alikeF a b then buildF (plus2 a b) a.length else []
noncomputable def term (a : List (List Int)) (i : Int) (b : List (List Int)) (j k : Int) : Int := timesF (at2 a i k) (at2 b k j)
noncomputable def termP (a : List (List Int)) (i : Int) (b : List (List Int)) (j k : Int) : Prop := idx2 i k a ∧ idx2 k j b ∧ timesP (at2 a i k) (at2 b k j)
noncomputable def dotF (a b : List (List Int)) (i j : Int) : Int := foldI plusF (term a i b j) (-1099511627776) a.length
noncomputable def dotP (a b : List (List Int)) (i j : Int) : Prop := preFold a.length (fun _ _ => True) (termP a i b j) (term a i b j)
noncomputable def prodF (a b : List (List Int)) : List (List Int) := bif alikeF a b then buildF (dotF a b) a.length else []
noncomputable def diag (m : List (List Int)) (k : Int) : Bool := decide (at2 m k k > 0)
noncomputable def cyclicF (m : List (List Int)) : Bool := foldB eitherF (diag m) false m.length
noncomputable def cycP (m : List (List Int)) : Prop := preFoldB m.length (fun _ _ => True) (fun k => idx2 k k m) (diag m)
noncomputable def star1 (m : List (List Int)) (i j : Int) : Int := bif decide (i = j) then plusF 0 (at2 m i j) else plusF (-1099511627776) (at2 m i j)
noncomputable def star2 (m : List (List Int)) (k i j : Int) : Int := plusF (at2 m i j) (timesF (at2 m i k) (at2 m k j))
noncomputable def star2P (m : List (List Int)) (k i j : Int) : Prop := idx2 i j m ∧ idx2 i k m ∧ idx2 k j m ∧ timesP (at2 m i k) (at2 m k j)
noncomputable def aterm (m : List (List Int)) (i : Int) (v : List Int) (k : Int) : Int := timesF (at2 m i k) (at1 v k)
noncomputable def atermP (m : List (List Int)) (i : Int) (v : List Int) (k : Int) : Prop := idx2 i k m ∧ idx k v ∧ timesP (at2 m i k) (at1 v k)

noncomputable def K4 : Kt := fun f args => match f, args with
  | 38, [.dat (.sl (.int .i64)) row] => some ⟨lenOk row, .dat .bool (wrongF row)⟩
  | _, _ => K3 f args
noncomputable def c4 : Cfg := ⟨Try.prog, K4, fun _ => false⟩

noncomputable def validA (m : List (List Int)) : Ann := ⟨fun id s => match id with
  | 4 => some { α := Int, inv := fun k => okTo m k, st := fun k => put s [(10, .dat I k)], μ := fun k => D.nat (D.sub (D.ilen m) k) }
  | _ => none, fun _ _ => none, fun _ _ => none⟩

theorem vc_valid (m : List (List Int)) (h :
     true = true ∧ true = true ∧ (True → (D.gt (D.ilen m) (40 : Int) = true → false = validF m ∧ True) ∧ (D.gt (D.ilen m) (40 : Int) = false → (∃ x, okTo m x
    ∧ m = m ∧ m = m ∧ D.ilen m = D.ilen m ∧ D.gt (D.ilen m) (40 : Int) = D.gt (D.ilen m) (40 : Int) ∧ m = m ∧ D.ilen m = D.ilen m ∧ (0 : Int) = x ∧ True) ∧ ∀ (x :
    Int), okTo m x → (D.lt x (D.ilen m) = true → D.ile (0 : Int) x ∧ D.ilt x (D.ilen m) ∧ (D.not (D.ne (D.ilen (D.get m (D.nat x) (D.nil Int))) (D.ilen m)) = true →
    D.not (D.ne (D.ilen (D.get m (D.nat x) (D.nil Int))) (D.ilen m)) = true → D.not (D.ne (D.ilen (D.get m (D.nat x) (D.nil Int))) (D.ilen m)) = true) ∧ (D.not
    (D.ne (D.ilen (D.get m (D.nat x) (D.nil Int))) (D.ilen m)) = true → lenOk (D.get m (D.nat x) (D.nil Int))) ∧ (D.and true (D.not (D.ne (D.ilen (D.get m (D.nat x)
    (D.nil Int))) (D.ilen m))) = true → D.not (D.ne (D.ilen (D.get m (D.nat x) (D.nil Int))) (D.ilen m)) = true) ∧ (D.cnd (D.ne (D.ilen (D.get m (D.nat x) (D.nil
    Int))) (D.ilen m)) true (wrongF (D.get m (D.nat x) (D.nil Int))) = true → false = validF m ∧ True) ∧ (D.cnd (D.ne (D.ilen (D.get m (D.nat x) (D.nil Int)))
    (D.ilen m)) true (wrongF (D.get m (D.nat x) (D.nil Int))) = false → inR IntKind.i64 (D.add x (1 : Int)) ∧ ∃ y, okTo m y ∧ (m = m ∧ m = m ∧ D.ilen m = D.ilen m ∧
    D.gt (D.ilen m) (40 : Int) = D.gt (D.ilen m) (40 : Int) ∧ m = m ∧ D.ilen m = D.ilen m ∧ D.add x (1 : Int) = y ∧ True) ∧ D.nlt (D.nat (D.sub (D.ilen m) y))
    (D.nat (D.sub (D.ilen m) x)))) ∧ (D.lt x (D.ilen m) = false → true = validF m ∧ True)))) :
    evF c4 (validA m) 17 [.dat M m] ⟨True, .dat .bool (validF m)⟩ := of_eq (by kernel_rfl) h

theorem vc_sum1 (i j : Int) (a b : List (List Int)) (h :
     true = true ∧ true = true ∧ (idx2 i j a ∧ idx2 i j b → D.ile (0 : Int) i ∧ D.ilt i (D.ilen a) ∧ D.ile (0 : Int) j ∧ D.ilt j (D.ilen (D.get a
    (D.nat i) (D.nil Int))) ∧ D.ile (0 : Int) i ∧ D.ilt i (D.ilen b) ∧ D.ile (0 : Int) j ∧ D.ilt j (D.ilen (D.get b (D.nat i) (D.nil Int))) ∧ True ∧ plusF (D.get
    (D.get a (D.nat i) (D.nil Int)) (D.nat j) (0 : Int)) (D.get (D.get b (D.nat i) (D.nil Int)) (D.nat j) (0 : Int)) = plus2 a b i j ∧ True)) :
    evF c4 noAnn 41 [.dat I i, .dat I j, .ip M a, .ip M b] ⟨idx2 i j a ∧ idx2 i j b, .dat I (plus2 a b i j)⟩ := of_eq (by kernel_rfl) h

theorem vc_term (k i j : Int) (a b : List (List Int)) (h :
     true = true ∧ true = true ∧ (termP a i b j k → D.ile (0 : Int) i ∧ D.ilt i (D.ilen a) ∧ D.ile (0 : Int) k ∧ D.ilt k (D.ilen (D.get a (D.nat i)
    (D.nil Int))) ∧ D.ile (0 : Int) k ∧ D.ilt k (D.ilen b) ∧ D.ile (0 : Int) j ∧ D.ilt j (D.ilen (D.get b (D.nat k) (D.nil Int))) ∧ timesP (D.get (D.get a (D.nat i)
    (D.nil Int)) (D.nat k) (0 : Int)) (D.get (D.get b (D.nat k) (D.nil Int)) (D.nat j) (0 : Int)) ∧ timesF (D.get (D.get a (D.nat i) (D.nil Int)) (D.nat k) (0 :
    Int)) (D.get (D.get b (D.nat k) (D.nil Int)) (D.nat j) (0 : Int)) = term a i b j k ∧ True)) :
    evF c4 noAnn 45 [.dat I k, .ip M a, .ip I i, .ip M b, .ip I j] ⟨termP a i b j k, .dat I (term a i b j k)⟩ := of_eq (by kernel_rfl) h

theorem vc_diag (k : Int) (m : List (List Int)) (h :
     true = true ∧ true = true ∧ (idx2 k k m → D.ile (0 : Int) k ∧ D.ilt k (D.ilen m) ∧ D.ile (0 : Int) k ∧ D.ilt k (D.ilen (D.get m (D.nat k) (D.nil
    Int))) ∧ D.gt (D.get (D.get m (D.nat k) (D.nil Int)) (D.nat k) (0 : Int)) (0 : Int) = diag m k ∧ True)) :
    evF c4 noAnn 50 [.dat I k, .ip M m] ⟨idx2 k k m, .dat .bool (diag m k)⟩ := of_eq (by kernel_rfl) h

theorem vc_star1 (i j : Int) (m : List (List Int)) (h :
     true = true ∧ true = true ∧ (idx2 i j m → (D.eq i j = true → D.ile (0 : Int) i ∧ D.ilt i (D.ilen m) ∧ D.ile (0 : Int) j ∧ D.ilt j (D.ilen (D.get m
    (D.nat i) (D.nil Int))) ∧ True ∧ plusF (0 : Int) (D.get (D.get m (D.nat i) (D.nil Int)) (D.nat j) (0 : Int)) = star1 m i j ∧ True) ∧ (D.eq i j = false → D.ile
    (0 : Int) i ∧ D.ilt i (D.ilen m) ∧ D.ile (0 : Int) j ∧ D.ilt j (D.ilen (D.get m (D.nat i) (D.nil Int))) ∧ True ∧ plusF (-1099511627776 : Int) (D.get (D.get m
    (D.nat i) (D.nil Int)) (D.nat j) (0 : Int)) = star1 m i j ∧ True))) :
    evF c4 noAnn 33 [.dat I i, .dat I j, .ip M m] ⟨idx2 i j m, .dat I (star1 m i j)⟩ := of_eq (by kernel_rfl) h

theorem vc_star2 (k i j : Int) (m : List (List Int)) (h :
     true = true ∧ true = true ∧ (star2P m k i j → D.ile (0 : Int) i ∧ D.ilt i (D.ilen m) ∧ D.ile (0 : Int) j ∧ D.ilt j (D.ilen (D.get m (D.nat i)
    (D.nil Int))) ∧ D.ile (0 : Int) i ∧ D.ilt i (D.ilen m) ∧ D.ile (0 : Int) k ∧ D.ilt k (D.ilen (D.get m (D.nat i) (D.nil Int))) ∧ D.ile (0 : Int) k ∧ D.ilt k
    (D.ilen m) ∧ D.ile (0 : Int) j ∧ D.ilt j (D.ilen (D.get m (D.nat k) (D.nil Int))) ∧ timesP (D.get (D.get m (D.nat i) (D.nil Int)) (D.nat k) (0 : Int)) (D.get
    (D.get m (D.nat k) (D.nil Int)) (D.nat j) (0 : Int)) ∧ True ∧ plusF (D.get (D.get m (D.nat i) (D.nil Int)) (D.nat j) (0 : Int)) (timesF (D.get (D.get m (D.nat
    i) (D.nil Int)) (D.nat k) (0 : Int)) (D.get (D.get m (D.nat k) (D.nil Int)) (D.nat j) (0 : Int))) = star2 m k i j ∧ True)) :
    evF c4 noAnn 36 [.dat I i, .dat I j, .ip M m, .ip I k] ⟨star2P m k i j, .dat I (star2 m k i j)⟩ := of_eq (by kernel_rfl) h

theorem vc_aterm (k i : Int) (m : List (List Int)) (v : List Int) (h :
     true = true ∧ true = true ∧ (atermP m i v k → D.ile (0 : Int) i ∧ D.ilt i (D.ilen m) ∧ D.ile (0 : Int) k ∧ D.ilt k (D.ilen (D.get m (D.nat i)
    (D.nil Int))) ∧ D.ile (0 : Int) k ∧ D.ilt k (D.ilen v) ∧ timesP (D.get (D.get m (D.nat i) (D.nil Int)) (D.nat k) (0 : Int)) (D.get v (D.nat k) (0 : Int)) ∧
    timesF (D.get (D.get m (D.nat i) (D.nil Int)) (D.nat k) (0 : Int)) (D.get v (D.nat k) (0 : Int)) = aterm m i v k ∧ True)) :
    evF c4 noAnn 46 [.dat I k, .ip M m, .ip I i, .ip R v] ⟨atermP m i v k, .dat I (aterm m i v k)⟩ := of_eq (by kernel_rfl) h


theorem KS4 : KSound Try.prog K4 := by
  intro f args c h
  unfold K4 at h
  split at h
  · cases h; exact s_wrong _
  · exact KS3 _ _ _ h

theorem okTo_zero {m : List (List Int)} (h : ¬ (m.length : Int) > 40) : okTo m 0 := ⟨by omega, by omega, by omega, by simp⟩
theorem okTo_row {m : List (List Int)} {k : Int} (h : okTo m k) (hk : k < m.length) : m.getD k.toNat [] ∈ m ∧ m.take (k + 1).toNat = m.take k.toNat ++ [m.getD k.toNat []] := by
  have h0 := h.1
  have hlt : k.toNat < m.length := by omega
  have e : (k + 1).toNat = k.toNat + 1 := by omega
  rw [List.getD_eq_getElem?_getD, List.getElem?_eq_getElem hlt, e]
  exact ⟨List.getElem_mem hlt, by rw [List.take_add_one, List.getElem?_eq_getElem hlt]; rfl⟩
theorem okTo_succ {m : List (List Int)} {k : Int} (h : okTo m k) (hk : k < m.length) (hr : rowBad m (m.getD k.toNat []) = false) : okTo m (k + 1) := by
  obtain ⟨h0, h1, h2, h3⟩ := h
  refine ⟨by omega, by omega, h2, ?_⟩
  rw [(okTo_row ⟨h0, h1, h2, h3⟩ hk).2, List.any_append, h3, List.any_cons, hr]; rfl
theorem validF_bad {m : List (List Int)} {k : Int} (h : okTo m k) (hk : k < m.length) (hr : rowBad m (m.getD k.toNat []) = true) : validF m = false := by
  unfold validF
  have : m.any (rowBad m) = true := List.any_eq_true.2 ⟨_, (okTo_row h hk).1, hr⟩
  rw [this]; simp
theorem validF_end {m : List (List Int)} {k : Int} (h : okTo m k) (hk : ¬ k < m.length) : validF m = true := by
  obtain ⟨h0, h1, h2, h3⟩ := h
  unfold validF
  have e : k.toNat = m.length := by omega
  rw [e, List.take_length] at h3
  rw [h3]
  have : ¬ ((m.length : Int) > 40) := by omega
  simp only [this, decide_false]; rfl
theorem cnd_rowBad (m : List (List Int)) (r : List Int) : D.cnd (D.ne (D.ilen r) (D.ilen m)) true (wrongF r) = rowBad m r := by
  unfold rowBad D.cnd D.ne D.ilen
  by_cases h : (r.length : Int) = m.length <;> simp [h]

theorem s_valid (m : List (List Int)) : SoundC Try.prog 17 [.dat M m] ⟨True, .dat .bool (validF m)⟩ := by
  refine sound_of_ev (c := c4) KS4 hm (vc_valid m ⟨rfl, rfl, fun _ => ⟨fun h => ⟨?_, trivial⟩, fun h => ⟨⟨0, okTo_zero (by simpa using h), by simp⟩, fun x hx => ⟨fun hlt => ?_, fun hge => ?_⟩⟩⟩⟩)
  · have : (m.length : Int) > 40 := by simpa using h
    unfold validF
    simp only [this, decide_true]; rfl
  · have hlt : x < m.length := by simpa using hlt
    refine ⟨hx.1, hlt, fun _ h => h, fun hne => ?_, fun h => ?_, fun hb => ⟨?_, trivial⟩, fun hb => ⟨?_, x + 1, ?_, by simp, ?_⟩⟩
    · have : ((m.getD x.toNat []).length : Int) = m.length := by simpa using hne
      have := hx.2.2.1
      show ((m.getD x.toNat []).length : Int) ≤ _
      omega
    · simpa using h
    · rw [cnd_rowBad m] at hb; exact (validF_bad hx hlt hb).symm
    · have := hx.2.2.1; have := hx.1; simp only [inR, D.add]; omega
    · rw [cnd_rowBad m] at hb; exact okTo_succ hx hlt hb
    · have := hx.1; simp only [D.nlt, D.nat, D.sub, D.ilen]; omega
  · have hge : ¬ x < m.length := by simpa using hge
    exact ⟨(validF_end hx hge).symm, trivial⟩

theorem s_sum1 (i j : Int) (a b : List (List Int)) : SoundC Try.prog 41 [.dat I i, .dat I j, .ip M a, .ip M b] ⟨idx2 i j a ∧ idx2 i j b, .dat I (plus2 a b i j)⟩ :=
  sound_of_ev (c := c4) KS4 hm (vc_sum1 i j a b ⟨rfl, rfl, fun ⟨h1, h2⟩ => ⟨h1.1, h1.2.1, h1.2.2.1, h1.2.2.2, h2.1, h2.2.1, h2.2.2.1, h2.2.2.2, trivial, rfl, trivial⟩⟩)
theorem s_term (k i j : Int) (a b : List (List Int)) : SoundC Try.prog 45 [.dat I k, .ip M a, .ip I i, .ip M b, .ip I j] ⟨termP a i b j k, .dat I (term a i b j k)⟩ :=
  sound_of_ev (c := c4) KS4 hm (vc_term k i j a b ⟨rfl, rfl, fun ⟨h1, h2, h3⟩ => ⟨h1.1, h1.2.1, h1.2.2.1, h1.2.2.2, h2.1, h2.2.1, h2.2.2.1, h2.2.2.2, h3, rfl, trivial⟩⟩)
theorem s_diag (k : Int) (m : List (List Int)) : SoundC Try.prog 50 [.dat I k, .ip M m] ⟨idx2 k k m, .dat .bool (diag m k)⟩ :=
  sound_of_ev (c := c4) KS4 hm (vc_diag k m ⟨rfl, rfl, fun h1 => ⟨h1.1, h1.2.1, h1.2.2.1, h1.2.2.2, rfl, trivial⟩⟩)
theorem s_star1 (i j : Int) (m : List (List Int)) : SoundC Try.prog 33 [.dat I i, .dat I j, .ip M m] ⟨idx2 i j m, .dat I (star1 m i j)⟩ :=
  sound_of_ev (c := c4) KS4 hm (vc_star1 i j m ⟨rfl, rfl, fun h1 => ⟨fun e => ⟨h1.1, h1.2.1, h1.2.2.1, h1.2.2.2, trivial, by
      have e : i = j := by simpa using e
      simp [star1, e, at2], trivial⟩,
    fun e => ⟨h1.1, h1.2.1, h1.2.2.1, h1.2.2.2, trivial, by
      have e : ¬ i = j := by simpa using e
      simp [star1, e, at2], trivial⟩⟩⟩)
theorem s_star2 (k i j : Int) (m : List (List Int)) : SoundC Try.prog 36 [.dat I i, .dat I j, .ip M m, .ip I k] ⟨star2P m k i j, .dat I (star2 m k i j)⟩ :=
  sound_of_ev (c := c4) KS4 hm (vc_star2 k i j m ⟨rfl, rfl, fun ⟨h1, h2, h3, h4⟩ => ⟨h1.1, h1.2.1, h1.2.2.1, h1.2.2.2, h2.1, h2.2.1, h2.2.2.1, h2.2.2.2, h3.1, h3.2.1, h3.2.2.1, h3.2.2.2, h4, trivial, rfl, trivial⟩⟩)
theorem s_aterm (k i : Int) (m : List (List Int)) (v : List Int) : SoundC Try.prog 46 [.dat I k, .ip M m, .ip I i, .ip R v] ⟨atermP m i v k, .dat I (aterm m i v k)⟩ :=
  sound_of_ev (c := c4) KS4 hm (vc_aterm k i m v ⟨rfl, rfl, fun ⟨h1, h2, h3⟩ => ⟨h1.1, h1.2.1, h1.2.2.1, h1.2.2.2, h2.1, h2.2, h3, rfl, trivial⟩⟩)

theorem s_build_fn (n : Int) {f : FuncId} {caps : List AV} (preT : Int → Int → Prop) (g : Int → Int → Int) (hg : goes Try.prog f = true) (hn : AV.namesL caps = []) (h : ∀ i j, SoundC Try.prog f (.dat I i :: .dat I j :: caps) ⟨preT i j, .dat I (g i j)⟩) :
    SoundC Try.prog 32 [.dat I n, .fn f caps] ⟨preBuild n preT, .dat M (buildF g n)⟩ :=
  (s_build n preT g).args fun _ _ ⟨_, _, e1, h1, _, _, e2, h2, h3⟩ => ⟨_, _, e1, h1, _, _, e2, clo2_of_fn hg hn h h2, h3⟩

noncomputable def K5 : Kt := fun f args => match f, args with
  | 17, [.dat (.sl (.sl (.int .i64))) m] => some ⟨True, .dat .bool (validF m)⟩
  | 44, [.dat (.int .i64) n, .dat (.int .i64) z, .fn 34 [], .fn 45 [.ip (.sl (.sl (.int .i64))) a, .ip (.int .i64) i, .ip (.sl (.sl (.int .i64))) b, .ip (.int .i64) j]] => some ⟨preFold n (fun _ _ => True) (termP a i b j) (term a i b j), .dat I (foldI plusF (term a i b j) z n)⟩
  | 44, [.dat (.int .i64) n, .dat (.int .i64) z, .fn 34 [], .fn 46 [.ip (.sl (.sl (.int .i64))) m, .ip (.int .i64) i, .ip (.sl (.int .i64)) v]] => some ⟨preFold n (fun _ _ => True) (atermP m i v) (aterm m i v), .dat I (foldI plusF (aterm m i v) z n)⟩
  | 48, [.dat (.int .i64) n, .dat .bool z, .fn 49 [], .fn 50 [.ip (.sl (.sl (.int .i64))) m]] => some ⟨preFoldB n (fun _ _ => True) (fun k => idx2 k k m) (diag m), .dat .bool (foldB eitherF (diag m) z n)⟩
  | 32, [.dat (.int .i64) n, .fn 41 [.ip (.sl (.sl (.int .i64))) a, .ip (.sl (.sl (.int .i64))) b]] => some ⟨preBuild n (fun i j => idx2 i j a ∧ idx2 i j b), .dat M (buildF (plus2 a b) n)⟩
  | 32, [.dat (.int .i64) n, .fn 33 [.ip (.sl (.sl (.int .i64))) m]] => some ⟨preBuild n (fun i j => idx2 i j m), .dat M (buildF (star1 m) n)⟩
  | 32, [.dat (.int .i64) n, .fn 36 [.ip (.sl (.sl (.int .i64))) m, .ip (.int .i64) k]] => some ⟨preBuild n (star2P m k), .dat M (buildF (star2 m k) n)⟩
  | _, _ => K4 f args
noncomputable def c5 : Cfg := ⟨Try.prog, K5, fun _ => false⟩

theorem vc_alike (a b : List (List Int)) (h :
     true = true ∧ true = true ∧ (True → True ∧ (validF a = true → validF a = true → validF a = true) ∧ (validF a = true → True) ∧ (D.and true (validF a) =
    true → validF a = true) ∧ (D.cnd (validF a) (validF b) false = true → D.cnd (validF a) (validF b) false = true → D.cnd (validF a) (validF b) false = true) ∧
    (D.cnd (validF a) (validF b) false = true → D.cnd (validF a) (validF b) false = true → D.cnd (validF a) (validF b) false = true) ∧ (D.cnd (validF a) (validF b)
    false = true → D.cnd (validF a) (validF b) false = true → D.cnd (validF a) (validF b) false = true) ∧ (D.cnd (validF a) (validF b) false = true → D.cnd (validF
    a) (validF b) false = true → D.cnd (validF a) (validF b) false = true) ∧ (D.and true (D.cnd (validF a) (validF b) false) = true → D.cnd (validF a) (validF b)
    false = true) ∧ D.cnd (D.cnd (validF a) (validF b) false) (D.eq (D.ilen a) (D.ilen b)) false = alikeF a b ∧ True)) :
    evF c5 noAnn 40 [.dat M a, .dat M b] ⟨True, .dat .bool (alikeF a b)⟩ := of_eq (by kernel_rfl) h

theorem vc_dot (i j : Int) (a b : List (List Int)) (h :
     true = true ∧ true = true ∧ (dotP a b i j → preFold (D.ilen a) (fun x x_1 ↦ True) (termP a i b j) (term a i b j) ∧ foldI plusF (term a i b j)
    (-1099511627776 : Int) (D.ilen a) = dotF a b i j ∧ True)) :
    evF c5 noAnn 43 [.dat I i, .dat I j, .ip M a, .ip M b] ⟨dotP a b i j, .dat I (dotF a b i j)⟩ := of_eq (by kernel_rfl) h

theorem vc_cyclic (m : List (List Int)) (h :
     true = true ∧ true = true ∧ (cycP m → preFoldB (D.ilen m) (fun x x_1 ↦ True) (fun k ↦ idx2 k k m) (diag m) ∧ foldB eitherF (diag m) false (D.ilen m) =
    cyclicF m ∧ True)) :
    evF c5 noAnn 35 [.dat M m] ⟨cycP m, .dat .bool (cyclicF m)⟩ := of_eq (by kernel_rfl) h

theorem KS5 : KSound Try.prog K5 := by
  intro f args c h
  unfold K5 at h
  split at h
  · cases h; exact s_valid _
  · cases h; exact s_fold_fn _ _ _ _ (by kernel_rfl) rfl (fun k => s_term k _ _ _ _)
  · cases h; exact s_fold_fn _ _ _ _ (by kernel_rfl) rfl (fun k => s_aterm k _ _ _)
  · cases h; exact s_foldB_fn _ _ _ _ (by kernel_rfl) rfl (fun k => s_diag k _)
  · cases h; exact s_build_fn _ _ _ (by kernel_rfl) rfl (fun i j => s_sum1 i j _ _)
  · cases h; exact s_build_fn _ _ _ (by kernel_rfl) rfl (fun i j => s_star1 i j _)
  · cases h; exact s_build_fn _ _ _ (by kernel_rfl) rfl (fun i j => s_star2 _ i j _)
  · exact KS4 _ _ _ h
theorem s_alike (a b : List (List Int)) : SoundC Try.prog 40 [.dat M a, .dat M b] ⟨True, .dat .bool (alikeF a b)⟩ :=
  sound_of_ev (c := c5) KS5 hm (vc_alike a b (by
    cases h : validF a <;> cases h2 : validF b <;> simp [alikeF, h, h2]
    by_cases e : (a.length : Int) = b.length <;> simp [D.eq, D.ilen, e]))
theorem s_dot (i j : Int) (a b : List (List Int)) : SoundC Try.prog 43 [.dat I i, .dat I j, .ip M a, .ip M b] ⟨dotP a b i j, .dat I (dotF a b i j)⟩ :=
  sound_of_ev (c := c5) KS5 hm (vc_dot i j a b ⟨rfl, rfl, fun h => ⟨h, rfl, trivial⟩⟩)
theorem s_cyclic (m : List (List Int)) : SoundC Try.prog 35 [.dat M m] ⟨cycP m, .dat .bool (cyclicF m)⟩ :=
  sound_of_ev (c := c5) KS5 hm (vc_cyclic m ⟨rfl, rfl, fun h => ⟨h, rfl, trivial⟩⟩)

end Go.Eng.Mp
