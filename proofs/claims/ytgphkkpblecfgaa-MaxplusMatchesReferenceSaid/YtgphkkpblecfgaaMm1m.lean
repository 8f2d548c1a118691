/- PeMm1m -/
import Derived.Test.YtgphkkpblecfgaaY22
import Derived.Test.YtgphkkpblecfgaaMxm
set_option linter.unusedSimpArgs false
set_option linter.unusedVariables false
set_option maxRecDepth 100000
namespace Go.Eng.Mp
open Go.Proofs
open Go.Eng.Sv (I R M G0 KI0)
open Go.Eng.Sv (KI0s hm)
set_option maxRecDepth 100000 in
theorem vc_fold (n z : Int) (preP : Int → Int → Prop) (op : Int → Int → Int) (preT : Int → Prop) (g : Int → Int) (hvc :
  true = true ∧ (preFold n preP preT g → (∃ x, upto x n ∧ n = n ∧ z = z ∧ AV.clo2 (Ty.int IntKind.i64) (Ty.int IntKind.i64) (Ty.int
  IntKind.i64) preP op = AV.clo2 (Ty.int IntKind.i64) (Ty.int IntKind.i64) (Ty.int IntKind.i64) preP op ∧ AV.clo1 (Ty.int IntKind.i64) (Ty.int IntKind.i64) preT
  g = AV.clo1 (Ty.int IntKind.i64) (Ty.int IntKind.i64) preT g ∧ (0 : Int) = (0 : Int) ∧ z = foldI op g z x ∧ z = z ∧ n = n ∧ (0 : Int) = x ∧ True) ∧ ∀ (x :
  Int),
 let c1 := foldI op g z x;
 let c2 := D.add x (1 : Int); upto x n → (D.lt x n = true → preT x ∧ preP c1 (g x) ∧ inR IntKind.i64 c2 ∧ ∃ y, upto y n ∧ (n = n ∧ z = z ∧ AV.clo2 (Ty.int
  IntKind.i64) (Ty.int IntKind.i64) (Ty.int IntKind.i64) preP op = AV.clo2 (Ty.int IntKind.i64) (Ty.int IntKind.i64) (Ty.int IntKind.i64) preP op ∧ AV.clo1
  (Ty.int IntKind.i64) (Ty.int IntKind.i64) preT g = AV.clo1 (Ty.int IntKind.i64) (Ty.int IntKind.i64) preT g ∧ (0 : Int) = (0 : Int) ∧ op c1 (g x) = foldI op g
  z y ∧ z = z ∧ n = n ∧ c2 = y ∧ True) ∧ D.nlt (D.nat (D.sub n y)) (D.nat (D.sub n x))) ∧ (D.lt x n = false → c1 = foldI op g z n ∧ True))) :
    evF c0 (foldA n z op g) 44 [.dat I n, .dat I z, .clo2 I I I preP op, .clo1 I I preT g] [] ⟨preFold n preP preT g, .dat I (foldI op g z n), []⟩ := of_eq (by kernel_rfl) hvc

set_option maxRecDepth 100000 in
theorem vc_sum1 (i j : Int) (a b : List (List Int)) (hvc :
 let c1 := D.get a (D.nat i) (D.nil Int);
 let c2 := D.get b (D.nat i) (D.nil Int); true = true ∧ (idx2 i j a ∧ idx2 i j b → D.ile (0 : Int) i ∧ D.ilt i (D.ilen a) ∧ D.ile (0 : Int) j ∧ D.ilt j (D.ilen
  c1) ∧ D.ile (0 : Int) i ∧ D.ilt i (D.ilen b) ∧ D.ile (0 : Int) j ∧ D.ilt j (D.ilen c2) ∧ True ∧ plusF (D.get c1 (D.nat j) (0 : Int)) (D.get c2 (D.nat j) (0 :
  Int)) = plus2 a b i j ∧ True)) :
    evF c4 noAnn 41 [.dat I i, .dat I j, .ip M a, .ip M b] [] ⟨idx2 i j a ∧ idx2 i j b, .dat I (plus2 a b i j), []⟩ := of_eq (by kernel_rfl) hvc

set_option maxRecDepth 100000 in
theorem vc_term (k i j : Int) (a b : List (List Int)) (hvc :
 let c1 := D.get a (D.nat i) (D.nil Int);
 let c2 := D.get b (D.nat k) (D.nil Int);
 let c3 := D.get c1 (D.nat k) (0 : Int);
 let c4 := D.get c2 (D.nat j) (0 : Int); true = true ∧ (termP a i b j k → D.ile (0 : Int) i ∧ D.ilt i (D.ilen a) ∧ D.ile (0 : Int) k ∧ D.ilt k (D.ilen c1) ∧
  D.ile (0 : Int) k ∧ D.ilt k (D.ilen b) ∧ D.ile (0 : Int) j ∧ D.ilt j (D.ilen c2) ∧ timesP c3 c4 ∧ timesF c3 c4 = term a i b j k ∧ True)) :
    evF c4 noAnn 45 [.dat I k, .ip M a, .ip I i, .ip M b, .ip I j] [] ⟨termP a i b j k, .dat I (term a i b j k), []⟩ := of_eq (by kernel_rfl) hvc

set_option maxRecDepth 100000 in
theorem vc_aterm (k i : Int) (m : List (List Int)) (v : List Int) (hvc :
 let c1 := D.get m (D.nat i) (D.nil Int);
 let c2 := D.get c1 (D.nat k) (0 : Int);
 let c3 := D.get v (D.nat k) (0 : Int); true = true ∧ (atermP m i v k → D.ile (0 : Int) i ∧ D.ilt i (D.ilen m) ∧ D.ile (0 : Int) k ∧ D.ilt k (D.ilen c1) ∧ D.ile
  (0 : Int) k ∧ D.ilt k (D.ilen v) ∧ timesP c2 c3 ∧ timesF c2 c3 = aterm m i v k ∧ True)) :
    evF c4 noAnn 46 [.dat I k, .ip M m, .ip I i, .ip R v] [] ⟨atermP m i v k, .dat I (aterm m i v k), []⟩ := of_eq (by kernel_rfl) hvc

theorem s_fold (n z : Int) (preP : Int → Int → Prop) (op : Int → Int → Int) (preT : Int → Prop) (g : Int → Int) :
    SoundC Try.prog G0 44 [.dat I n, .dat I z, .clo2 I I I preP op, .clo1 I I preT g] [] ⟨preFold n preP preT g, .dat I (foldI op g z n), []⟩ := by
  refine sound_of_ev (c := c0) KS0 KI0s hm (vc_fold n z preP op preT g ⟨rfl, fun hp => ⟨⟨0, ⟨by omega, .inr rfl⟩, ?_⟩, fun x hx => ⟨fun hlt => ?_, fun hge => ?_⟩⟩⟩)
  · simp [foldI_zero]
  · have hlt : x < n := by simpa using hlt
    have h0 := hx.1
    obtain ⟨p1, p2⟩ := hp.2 x h0 hlt
    refine ⟨p1, p2 _, ?_, x + 1, ⟨by omega, .inl (by omega)⟩, ?_, ?_⟩
    · have := hp.1; simp only [inR, D.add]; omega
    · simp [foldI_succ op g z x h0]
    · simp only [D.nlt, D.nat, D.sub]; omega
  · have hge : ¬ x < n := by simpa using hge
    exact ⟨foldI_end op g z x n hx hge, trivial⟩
theorem s_fold_fn (n z : Int) {f : FuncId} {caps : List AV} (preT : Int → Prop) (g : Int → Int) (hg : goes Try.prog f = true) (hn : AV.namesL caps = []) (h : ∀ k, SoundC Try.prog G0 f (.dat I k :: caps) [] ⟨preT k, .dat I (g k), []⟩) :
    SoundC Try.prog G0 44 [.dat I n, .dat I z, .fn 34 [], .fn f caps] [] ⟨preFold n (fun _ _ => True) preT g, .dat I (foldI plusF g z n), []⟩ :=
  (s_fold n z _ plusF preT g).args fun _ _ hG hu => relL_dat2 hu (fun _ h => plus_clo hG h) (fun _ hv => clo1_of_fn hg hn h hG hv)
theorem s_sum1 (i j : Int) (a b : List (List Int)) : SoundC Try.prog G0 41 [.dat I i, .dat I j, .ip M a, .ip M b] [] ⟨idx2 i j a ∧ idx2 i j b, .dat I (plus2 a b i j), []⟩ :=
  sound_of_ev (c := c4) KS4 KI0s hm (vc_sum1 i j a b ⟨rfl, fun ⟨h1, h2⟩ => ⟨h1.1, h1.2.1, h1.2.2.1, h1.2.2.2, h2.1, h2.2.1, h2.2.2.1, h2.2.2.2, trivial, rfl, trivial⟩⟩)
theorem s_term (k i j : Int) (a b : List (List Int)) : SoundC Try.prog G0 45 [.dat I k, .ip M a, .ip I i, .ip M b, .ip I j] [] ⟨termP a i b j k, .dat I (term a i b j k), []⟩ :=
  sound_of_ev (c := c4) KS4 KI0s hm (vc_term k i j a b ⟨rfl, fun ⟨h1, h2, h3⟩ => ⟨h1.1, h1.2.1, h1.2.2.1, h1.2.2.2, h2.1, h2.2.1, h2.2.2.1, h2.2.2.2, h3, rfl, trivial⟩⟩)
theorem s_aterm (k i : Int) (m : List (List Int)) (v : List Int) : SoundC Try.prog G0 46 [.dat I k, .ip M m, .ip I i, .ip R v] [] ⟨atermP m i v k, .dat I (aterm m i v k), []⟩ :=
  sound_of_ev (c := c4) KS4 KI0s hm (vc_aterm k i m v ⟨rfl, fun ⟨h1, h2, h3⟩ => ⟨h1.1, h1.2.1, h1.2.2.1, h1.2.2.2, h2.1, h2.2, h3, rfl, trivial⟩⟩)
noncomputable def K5b : Kt := fun f args m => match f, args, m with
  | 44, [.dat (.int .i64) n, .dat (.int .i64) z, .fn 34 [], .fn 45 [.ip (.sl (.sl (.int .i64))) a, .ip (.int .i64) i, .ip (.sl (.sl (.int .i64))) b, .ip (.int .i64) j]], [] => some ⟨preFold n (fun _ _ => True) (termP a i b j) (term a i b j), .dat I (foldI plusF (term a i b j) z n), []⟩
  | 44, [.dat (.int .i64) n, .dat (.int .i64) z, .fn 34 [], .fn 46 [.ip (.sl (.sl (.int .i64))) m, .ip (.int .i64) i, .ip (.sl (.int .i64)) v]], [] => some ⟨preFold n (fun _ _ => True) (atermP m i v) (aterm m i v), .dat I (foldI plusF (aterm m i v) z n), []⟩
  | 32, [.dat (.int .i64) n, .fn 41 [.ip (.sl (.sl (.int .i64))) a, .ip (.sl (.sl (.int .i64))) b]], [] => some ⟨preBuild n (fun i j => idx2 i j a ∧ idx2 i j b), .dat M (buildF (plus2 a b) n), []⟩
  | _, _, _ => K6 f args m
noncomputable def c5b : Cfg := Sv.mkc K5b
set_option maxRecDepth 100000 in
theorem vc_alike (a b : List (List Int)) (hvc :
 let c1 := D.cnd (validF a) (validF b) false; true = true ∧ (True → True ∧ (validF a = true → validF a = true → validF a = true) ∧ (validF a = true → True) ∧
  (D.and true (validF a) = true → validF a = true) ∧ (c1 = true → c1 = true → c1 = true) ∧ (c1 = true → c1 = true → c1 = true) ∧ (c1 = true → c1 = true → c1 =
  true) ∧ (c1 = true → c1 = true → c1 = true) ∧ (D.and true c1 = true → c1 = true) ∧ D.cnd c1 (D.eq (D.ilen a) (D.ilen b)) false = alikeF a b ∧ True)) :
    evF c5b noAnn 40 [.dat M a, .dat M b] [] ⟨True, .dat .bool (alikeF a b), []⟩ := of_eq (by kernel_rfl) hvc

set_option maxRecDepth 100000 in
theorem vc_dot (i j : Int) (a b : List (List Int)) (hvc :
  true = true ∧ (dotP a b i j → preFold (D.ilen a) (fun x x_1 ↦ True) (termP a i b j) (term a i b j) ∧ foldI plusF (term a i b j) (-1099511627776 :
  Int) (D.ilen a) = dotF a b i j ∧ True)) :
    evF c5b noAnn 43 [.dat I i, .dat I j, .ip M a, .ip M b] [] ⟨dotP a b i j, .dat I (dotF a b i j), []⟩ := of_eq (by kernel_rfl) hvc

theorem KS5b : KSound Try.prog G0 K5b := by
  intro f args m c h
  unfold K5b at h
  split at h
  · cases h; exact s_fold_fn _ _ _ _ (by kernel_rfl) rfl (fun k => s_term k _ _ _ _)
  · cases h; exact s_fold_fn _ _ _ _ (by kernel_rfl) rfl (fun k => s_aterm k _ _ _)
  · cases h; exact s_build_fn _ _ _ (by kernel_rfl) rfl (fun i j => s_sum1 i j _ _)
  · exact KS6 _ _ _ _ h
theorem s_alike (a b : List (List Int)) : SoundC Try.prog G0 40 [.dat M a, .dat M b] [] ⟨True, .dat .bool (alikeF a b), []⟩ :=
  sound_of_ev (c := c5b) KS5b KI0s hm (vc_alike a b (by
    cases h : validF a <;> cases h2 : validF b <;> simp [alikeF, h, h2]
    by_cases e : (a.length : Int) = b.length <;> simp [D.eq, D.ilen, e]))
theorem s_dot (i j : Int) (a b : List (List Int)) : SoundC Try.prog G0 43 [.dat I i, .dat I j, .ip M a, .ip M b] [] ⟨dotP a b i j, .dat I (dotF a b i j), []⟩ :=
  sound_of_ev (c := c5b) KS5b KI0s hm (vc_dot i j a b ⟨rfl, fun h => ⟨h, rfl, trivial⟩⟩)
noncomputable def K6b : Kt := fun f args m => match f, args, m with
  | 40, [.dat (.sl (.sl (.int .i64))) a, .dat (.sl (.sl (.int .i64))) b], [] => some ⟨True, .dat .bool (alikeF a b), []⟩
  | 32, [.dat (.int .i64) n, .fn 43 [.ip (.sl (.sl (.int .i64))) a, .ip (.sl (.sl (.int .i64))) b]], [] => some ⟨preBuild n (dotP a b), .dat M (buildF (dotF a b) n), []⟩
  | _, _, _ => K5b f args m
noncomputable def c6b : Cfg := Sv.mkc K6b
set_option maxRecDepth 100000 in
theorem vc_sum (a b : List (List Int)) (hvc :
  true = true ∧ (True → True ∧ (D.not (alikeF a b) = true → sumF a b = D.nil (List Int) ∧ True) ∧ (D.not (alikeF a b) = false → (preBuild (D.ilen a) fun
  i j ↦ idx2 i j a ∧ idx2 i j b) ∧ buildF (plus2 a b) (D.ilen a) = sumF a b ∧ True))) :
    evF c6b noAnn 19 [.dat M a, .dat M b] [] ⟨True, .dat M (sumF a b), []⟩ := of_eq (by kernel_rfl) hvc

set_option maxRecDepth 100000 in
theorem vc_prod (a b : List (List Int)) (hvc :
  true = true ∧ (True → True ∧ (D.not (alikeF a b) = true → prodF a b = D.nil (List Int) ∧ True) ∧ (D.not (alikeF a b) = false → preBuild (D.ilen a)
  (dotP a b) ∧ buildF (dotF a b) (D.ilen a) = prodF a b ∧ True))) :
    evF c6b noAnn 21 [.dat M a, .dat M b] [] ⟨True, .dat M (prodF a b), []⟩ := of_eq (by kernel_rfl) hvc

set_option maxRecDepth 100000 in
theorem vc_apply (m : List (List Int)) (v : List Int) (hvc :
 let c1 := D.cnd (D.not (validF m)) true (D.ne (D.ilen v) (D.ilen m));
 let c2 := D.not c1;
 let c3 := D.cnd c1 true (wrongF v);
 let c4 := D.nat (D.ilen m); true = true ∧ (True → True ∧ (D.not (D.not (validF m)) = true → D.not (D.not (validF m)) = true → D.not (D.not (validF m)) = true) ∧
  (D.not (D.not (validF m)) = true → D.not (D.not (validF m)) = true → D.not (D.not (validF m)) = true) ∧ (D.not (D.not (validF m)) = true → D.not (D.not (validF
  m)) = true → D.not (D.not (validF m)) = true) ∧ (D.not (D.not (validF m)) = true → D.not (D.not (validF m)) = true → D.not (D.not (validF m)) = true) ∧ (D.and
  true (D.not (D.not (validF m))) = true → D.not (D.not (validF m)) = true) ∧ (c2 = true → c2 = true → c2 = true) ∧ (c2 = true → lenOk v) ∧ (D.and true c2 = true
  → c2 = true) ∧ (c3 = true → applyF m v = D.nil Int ∧ True) ∧ (c3 = false → D.ile (0 : Int) (D.ilen m) ∧ D.ile (D.mul (D.ofN (8)) (D.ilen m)) (281474976710656 :
  Int) ∧ D.ile (D.ilen m) (9223372036854775807 : Int) ∧ (∃ x, upto x (D.ilen m) ∧ m = m ∧ v = v ∧ m = m ∧ v = v ∧ Value.slice none (0) (0) = Value.slice none (0)
  (0) ∧ c4 = c4 ∧ m = m ∧ validF m = validF m ∧ D.not (validF m) = D.not (validF m) ∧ D.not (validF m) = D.not (validF m) ∧ c1 = c1 ∧ c1 = c1 ∧ c3 = c3 ∧ m = m ∧
  D.ilen m = D.ilen m ∧ c4 = c4 ∧ m = m ∧ D.ilen m = D.ilen m ∧ (0 : Int) = x ∧ D.rep (D.ilen m) (0 : Int) = applyTo m v x ∧ True) ∧ ∀ (x : Int),
 let c5 := D.lt x (D.ilen m);
 let c6 := D.len (applyTo m v x);
 let c7 := D.add x (1 : Int); upto x (D.ilen m) → (c5 = true → 1 = 1 ∧ 0 = 0 ∧ m = m ∧ v = v ∧ m = m ∧ v = v ∧ Value.slice none (0) (0) = Value.slice none (0)
  (0) ∧ c4 = c4 ∧ 1 = 1 ∧ 0 = 0 ∧ x = x ∧ m = m ∧ validF m = validF m ∧ D.not (validF m) = D.not (validF m) ∧ D.not (validF m) = D.not (validF m) ∧ c1 = c1 ∧ c1
  = c1 ∧ c3 = c3 ∧ m = m ∧ D.ilen m = D.ilen m ∧ c4 = c4 ∧ m = m ∧ D.ilen m = D.ilen m ∧ x = x ∧ c5 = c5 ∧ x = x ∧ applyTo m v x = applyTo m v x ∧ preFold
  (D.ilen v) (fun x x_3 ↦ True) (atermP m x v) (aterm m x v) ∧ c6 = c4 ∧ D.ile (0 : Int) x ∧ D.ilt x (D.ofN c6) ∧ c6 = c4 ∧ inR IntKind.i64 c7 ∧ ∃ y, upto y
  (D.ilen m) ∧ (m = m ∧ v = v ∧ m = m ∧ v = v ∧ Value.slice none (0) (0) = Value.slice none (0) (0) ∧ c4 = c4 ∧ m = m ∧ validF m = validF m ∧ D.not (validF m) =
  D.not (validF m) ∧ D.not (validF m) = D.not (validF m) ∧ c1 = c1 ∧ c1 = c1 ∧ c3 = c3 ∧ m = m ∧ D.ilen m = D.ilen m ∧ c4 = c4 ∧ m = m ∧ D.ilen m = D.ilen m ∧ c7
  = y ∧ D.set (applyTo m v x) (D.nat x) (foldI plusF (aterm m x v) (-1099511627776 : Int) (D.ilen v)) = applyTo m v y ∧ True) ∧ D.nlt (D.nat (D.sub (D.ilen m)
  y)) (D.nat (D.sub (D.ilen m) x))) ∧ (c5 = false → c6 = c4 ∧ applyTo m v x = applyF m v ∧ True)))) :
    evF c6b (applyA m v) 24 [.dat M m, .dat R v] [] ⟨True, .dat R (applyF m v), []⟩ := of_eq (by kernel_rfl) hvc

theorem KS6b : KSound Try.prog G0 K6b := by
  intro f args m c h
  unfold K6b at h
  split at h
  · cases h; exact s_alike _ _
  · cases h; exact s_build_fn _ _ _ (by kernel_rfl) rfl (fun i j => s_dot i j _ _)
  · exact KS5b _ _ _ _ h
theorem s_sum (a b : List (List Int)) : SoundC Try.prog G0 19 [.dat M a, .dat M b] [] ⟨True, .dat M (sumF a b), []⟩ :=
  sound_of_ev (c := c6b) KS6b KI0s hm (vc_sum a b ⟨rfl, fun _ => ⟨trivial, fun h => ⟨by
      have h : alikeF a b = false := by simpa using h
      simp [sumF, h], trivial⟩, fun h => by
      have h : alikeF a b = true := by simpa using h
      obtain ⟨h1, h2, h3⟩ := alike_iff.1 h
      obtain ⟨sa, la, _⟩ := valid_sq h1
      obtain ⟨sb, _, _⟩ := valid_sq h2
      refine ⟨⟨by simp only [D.ilen]; omega, by simp only [D.ilen]; omega, fun i j h0 hi h4 hj => ⟨sa.idx2 h0 hi h4 hj, sb.idx2 h0 (by rw [← h3]; exact hi) h4 (by rw [← h3]; exact hj)⟩⟩, by simp [sumF, h], trivial⟩⟩⟩)
theorem s_prod (a b : List (List Int)) : SoundC Try.prog G0 21 [.dat M a, .dat M b] [] ⟨True, .dat M (prodF a b), []⟩ :=
  sound_of_ev (c := c6b) KS6b KI0s hm (vc_prod a b ⟨rfl, fun _ => ⟨trivial, fun h => ⟨by
      have h : alikeF a b = false := by simpa using h
      simp [prodF, h], trivial⟩, fun h => by
      have h : alikeF a b = true := by simpa using h
      exact ⟨dot_ok h, by simp [prodF, h], trivial⟩⟩⟩)
theorem s_apply (m : List (List Int)) (v : List Int) : SoundC Try.prog G0 24 [.dat M m, .dat R v] [] ⟨True, .dat R (applyF m v), []⟩ := by
  refine sound_of_ev (c := c6b) KS6b KI0s hm (vc_apply m v ⟨rfl, fun _ => ?_⟩)
  have hval : ∀ {x : Bool}, D.not (D.not x) = true → x = true := fun {x} h => by simpa using h
  have hc : D.not (D.cnd (D.not (validF m)) true (D.ne (D.ilen v) (D.ilen m))) = true → validF m = true ∧ v.length = m.length := by
    intro h
    cases hv : validF m with
    | false => rw [hv] at h; simp at h
    | true =>
      rw [hv] at h
      simp [D.ne, D.ilen] at h
      exact ⟨rfl, by omega⟩
  refine ⟨trivial, fun _ h => h, fun _ h => h, fun _ h => h, fun _ h => h, fun h => by simpa using h, fun _ h => h, fun h => ?_, fun h => by simpa using h, fun h => ⟨?_, trivial⟩, fun h => ?_⟩
  · obtain ⟨h1, h2⟩ := hc h
    have := (valid_sq h1).2.1
    show (v.length : Int) ≤ _
    omega
  · cases hv : validF m with
    | false => simp [applyF, hv]
    | true =>
      rw [hv] at h
      by_cases e : (v.length : Int) = m.length
      · simp [D.ne, D.ilen, e] at h
        simp [applyF, hv, e, h]
      · simp [applyF, hv, e]
  · obtain ⟨h1, h2, h3⟩ : validF m = true ∧ v.length = m.length ∧ wrongF v = false := by
      cases hv : validF m with
      | false => rw [hv] at h; simp at h
      | true =>
        rw [hv] at h
        by_cases e : (v.length : Int) = m.length
        · simp [D.ne, D.ilen, e] at h
          exact ⟨rfl, by omega, h⟩
        · simp [D.ne, D.ilen, e] at h
    obtain ⟨sq, le, el⟩ := valid_sq h1
    have ev := wrongF_false.1 h3
    have eval : applyF m v = (List.range m.length).map fun i : Nat => foldI plusF (aterm m i v) (-1099511627776) v.length := by simp [applyF, h1, h2, h3]
    refine ⟨by simp only [D.ile, D.ilen]; omega, by simp only [D.ile, D.ilen, D.mul, D.ofN]; omega, by simp only [D.ile, D.ilen]; omega, ⟨0, ⟨by omega, .inr rfl⟩, ?_⟩, fun x hx => ⟨fun hlt => ?_, fun hge => ?_⟩⟩
    · simp [applyTo]
    · have hlt : x < m.length := by simpa using hlt
      have h0 := hx.1
      have hl := applyTo_len m v x hx
      have hp : preFold (D.ilen v) (fun _ _ => True) (atermP m x v) (aterm m x v) := ⟨by simp only [D.ilen]; omega, fun k h4 hk => ⟨⟨sq.idx2 h0 hlt h4 (by simp only [D.ilen] at hk; omega), ⟨h4, hk⟩, elem_times (el x k h0 hlt h4 (by simp only [D.ilen] at hk; omega)) (ev k h4 hk)⟩, fun _ => trivial⟩⟩
      simp only [true_and, and_true, eq_self]
      refine ⟨hp, by simpa using hl, h0, by simp only [D.ilt, D.ofN, D.len]; omega, by simpa using hl, by simp only [inR, D.add]; omega, x + 1, ⟨by omega, .inl (by simp only [D.ilen]; omega)⟩, ⟨rfl, ?_⟩, ?_⟩
      · exact applyTo_succ m v x h0 hlt
      · simp only [D.nlt, D.nat, D.sub, D.ilen]; omega
    · have hge : ¬ x < m.length := by simpa using hge
      have hl := applyTo_len m v x hx
      refine ⟨by simpa using hl, ?_, trivial⟩
      have := hx.1; have := hx.2
      have e : x.toNat = m.length := by simp only [D.ilen] at this; omega
      rw [eval]
      unfold applyTo
      rw [e, List.take_of_length_le (by simp)]; simp
end Go.Eng.Mp