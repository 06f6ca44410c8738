/- Contracts: rows sorted, each class in its order. -/
import Derived.Test.YtnofalhkapmcnaaGreatPartI
set_option linter.all false
section
set_option linter.unusedSimpArgs false
namespace Go.Proofs.YtnofalhkapmcnaaGreat
open Go.Vc Go.Key Go.Stab
set_option maxRecDepth 100000
theorem bs_take (bs : Nat) (R : List El) (h : bs + bs ≤ R.length) : R = (R.take bs ++ (R.drop bs).take bs) ++ R.drop (bs + bs) := by
  have h1 : R.drop bs = (R.drop bs).take bs ++ (R.drop bs).drop bs := (List.take_append_drop _ _).symm
  rw [List.drop_drop] at h1
  have h2 : R = R.take bs ++ R.drop bs := (List.take_append_drop _ _).symm
  rw [List.append_assoc, ← h1, ← h2]
set_option maxHeartbeats 2000000 in
theorem stable_c (B B' g c : Nat) (L l : List El) (w : World) (h : Sw w B B' g c L l) :
    FnC Tryz.prog 113 #[.slice (some ⟨g, 0, none⟩) l.length c, .int .i64 (l.length : Int), cmpV] w fun r w' => ∃ l', Srt elt l' ∧ Stb elt l l' ∧ Sw w' B B' g c L l' ∧ Chg w w' [g] := by
  have hbig := h.big
  generalize hN : l.length = N at *
  refine enter113 _ _ _ ?_
  unfold B113
  repeat' (first | (simp (disch := omega) only [push_cast, seval]) | refine iX ?_ ?_ <;> intros | refine aI (by omega) ?_ | refine dq ?_)
  refine vc_loop W113_0 (fun A : Nat => [(7, .int .i64 (A : Int)), (8, .int .i64 ((A : Int) + 20))])
    (fun A w' => (∃ k, A = k * 20) ∧ ∃ P R, P.length = A ∧ P.length + R.length = N ∧ Bs elt 20 P ∧ Stb elt l (P ++ R) ∧ Sw w' B B' g c L (P ++ R) ∧ Chg w w' [g]) (fun A => N - A) 0 (by decide) ?_ ?_ ?_
  · simp (disch := omega) only [push_cast, seval]
  · exact ⟨⟨0, rfl⟩, [], l, rfl, by simp [hN], Bs.nil, Stb.refl _, h, Chg.refl _ _⟩
  rintro A uu w1 ⟨⟨k, hk⟩, P, R, hP, hPR, bP, tl, h1, c1⟩
  by_cases hlt : A + 20 ≤ N
  · have hR : R = R.take 20 ++ R.drop 20 := (List.take_append_drop _ _).symm
    have n1 : (R.take 20).length = 20 := by rw [List.length_take]; omega
    have n2 : (R.drop 20).length = R.length - 20 := List.length_drop
    generalize R.take 20 = M at *
    generalize R.drop 20 = Y at *
    subst hR
    have hi := insertion_c B B' g c L P M Y w1 (by simpa using h1)
    rw [show (P ++ M ++ Y).length = N by simp only [List.length_append] at *; omega, show P.length + M.length = A + 20 by omega, hP] at hi
    repeat' (first | (simp (disch := omega) only [push_cast, seval]) | refine iX ?_ ?_ <;> intros | refine aI (by omega) ?_ | refine dq ?_)
    refine hi.mono ?_
    rintro _ w2 ⟨M', sM, tM, h2, c2⟩
    have hl' := tM.1
    obtain ⟨A', hA'⟩ : ∃ A', A' = A + 20 := ⟨_, rfl⟩
    have eA : (A : Int) + 20 = (A' : Int) := by omega
    repeat' (first | (simp (disch := omega) only [push_cast, seval, eA]) | refine iX ?_ ?_ <;> intros | refine aI (by omega) ?_ | refine dq ?_)
    refine ⟨rfl, A', by simp (disch := omega) only [push_cast, seval, eA], ⟨⟨k + 1, by omega⟩, P ++ M', Y, by rw [List.length_append]; omega, by rw [List.length_append]; rw [List.length_append] at hPR; omega, bP.snoc (k := k) (by omega) sM (by omega), ?_, h2, c1.trans c2⟩, by dsimp only; omega⟩
    refine tl.trans ?_
    have := ((Stb.refl (lt := elt) P).append tM).append (Stb.refl (lt := elt) Y)
    simpa using this
  · have hi := insertion_c B B' g c L P R [] w1 (by simpa using h1)
    rw [show (P ++ R ++ ([] : List El)).length = N by simp only [List.length_append, List.length_nil]; omega, hPR, hP] at hi
    repeat' (first | (simp (disch := omega) only [push_cast, seval]) | refine iX ?_ ?_ <;> intros | refine aI (by omega) ?_ | refine dq ?_)
    refine hi.mono ?_
    rintro _ w2 ⟨R', sR, tR, h2, c2⟩
    have hl' := tR.1
    have bP' : Bs elt 20 (P ++ R') := bP.snoc (k := k) (by omega) sR (by omega)
    have tl' : Stb elt l (P ++ R') := tl.trans ((Stb.refl (lt := elt) P).append tR)
    have hlen : (P ++ R').length = N := by rw [List.length_append]; omega
    rw [List.append_nil] at h2
    have c12 := c1.trans c2
    clear hi h1 c1 c2 tR sR tl bP
    generalize P ++ R' = cur at *
    repeat' (first | (simp (disch := omega) only [push_cast, seval]) | refine iX ?_ ?_ <;> intros | refine aI (by omega) ?_ | refine dq ?_)
    refine vc_loop W113_1 (fun bs : Nat => [(6, .int .i64 (bs : Int))])
      (fun bs w' => 20 ≤ bs ∧ bs ≤ 2000000 ∧ ∃ cur, cur.length = N ∧ Bs elt bs cur ∧ Stb elt l cur ∧ Sw w' B B' g c L cur ∧ Chg w w' [g]) (fun bs => N - bs) 20 (by decide) ?_ ?_ ?_
    · simp (disch := omega) only [push_cast, seval]
    · exact ⟨by omega, by omega, cur, hlen, bP', tl', h2, c12⟩
    clear hlen bP' tl' h2 c12
    rintro bs uu2 w3 ⟨hb1, hb2, cur, hlen, bC, tC, h3, c3⟩
    by_cases hbn : bs < N
    · repeat' (first | (simp (disch := omega) only [push_cast, seval]) | refine iX ?_ ?_ <;> intros | refine aI (by omega) ?_ | refine dq ?_)
      refine vc_loop W113_2 (fun A : Nat => [(7, .int .i64 (A : Int)), (8, .int .i64 ((A : Int) + 2 * (bs : Int)))])
        (fun A w' => (∃ k, A = k * (bs + bs)) ∧ ∃ P R, P.length = A ∧ P.length + R.length = N ∧ Bs elt (bs + bs) P ∧ Bs elt bs R ∧ Stb elt l (P ++ R) ∧ Sw w' B B' g c L (P ++ R) ∧ Chg w w' [g]) (fun A => N - A) 0 (by decide) ?_ ?_ ?_
      · simp (disch := omega) only [push_cast, seval, Int.zero_add]
      · exact ⟨⟨0, by simp⟩, [], cur, rfl, by simp [hlen], Bs.nil, bC, tC, h3, c3⟩
      clear hlen bC tC h3 c3
      rintro A uu3 w4 ⟨⟨k, hk⟩, P, R, hP, hPR, bP, bR, tl, h4, c4⟩
      by_cases hlt : A + 2 * bs ≤ N
      · have hR := bs_take bs R (by omega)
        obtain ⟨s1, s2, s3⟩ := bR.two
        have n1 : (R.take bs).length = bs := by rw [List.length_take]; omega
        have n2 : ((R.drop bs).take bs).length = bs := by rw [List.length_take, List.length_drop]; omega
        have n3 : (R.drop (bs + bs)).length = R.length - (bs + bs) := List.length_drop
        generalize R.take bs = U at *
        generalize (R.drop bs).take bs = V at *
        generalize R.drop (bs + bs) = Y at *
        have hRl : R.length = (U ++ V ++ Y).length := congrArg List.length hR
        rw [hR] at tl h4
        have hi := symMerge_c (2 * bs) B B' g c L P U V Y A (A + bs) (A + 2 * bs) w4 (by omega) (by simpa using h4) hP (by omega) (by omega) (by omega) (by omega) s1 s2
        rw [show (P ++ (U ++ V) ++ Y).length = N by simp only [List.length_append] at *; omega, show ((A + bs : Nat) : Int) = (A : Int) + (bs : Int) by omega, show ((A + 2 * bs : Nat) : Int) = (A : Int) + 2 * (bs : Int) by omega] at hi
        repeat' (first | (simp (disch := omega) only [push_cast, seval]) | refine iX ?_ ?_ <;> intros | refine aI (by omega) ?_ | refine dq ?_)
        refine hi.mono ?_
        rintro _ w5 ⟨Z, sZ, tZ, h5, c5⟩
        have hl' := tZ.1
        rw [List.length_append] at hl'
        have hk1 : (k + 1) * (bs + bs) = k * (bs + bs) + (bs + bs) := by rw [Nat.add_mul]; omega
        repeat' (first | (simp (disch := omega) only [push_cast, seval]) | refine iX ?_ ?_ <;> intros | refine aI (by omega) ?_ | refine dq ?_)
        refine ⟨rfl, A + 2 * bs, by simp (disch := omega) only [push_cast, seval], ⟨⟨k + 1, by omega⟩, P ++ Z, Y, by rw [List.length_append]; omega, by rw [List.length_append]; omega, bP.snoc (k := k) (by omega) sZ (by omega), s3, ?_, h5, c4.trans c5⟩, by dsimp only; omega⟩
        refine tl.trans ?_
        have := ((Stb.refl (lt := elt) P).append tZ).append (Stb.refl (lt := elt) Y)
        simpa using this
      · have fin : ∀ w5 Z, Srt elt Z → Stb elt R Z → Sw w5 B B' g c L (P ++ Z) → Chg w w5 [g] → 20 ≤ bs * 2 ∧ bs * 2 ≤ 2000000 ∧ ∃ cur, cur.length = N ∧ Bs elt (bs * 2) cur ∧ Stb elt l cur ∧ Sw w5 B B' g c L cur ∧ Chg w w5 [g] := by
          intro w5 Z sZ tZ h5 c5
          have hl' := tZ.1
          refine ⟨by omega, by omega, P ++ Z, by rw [List.length_append]; omega, ?_, tl.trans ((Stb.refl (lt := elt) P).append tZ), h5, c5⟩
          rw [show bs * 2 = bs + bs by omega]
          exact bP.snoc (k := k) (by omega) sZ (by omega)
        obtain ⟨b2, hb2'⟩ : ∃ b2, b2 = bs * 2 := ⟨_, rfl⟩
        rw [← hb2'] at fin
        have eb : (bs : Int) * 2 = (b2 : Int) := by omega
        by_cases hmn : A + bs < N
        · have hR : R = R.take bs ++ R.drop bs := (List.take_append_drop _ _).symm
          obtain ⟨s1, s2, _⟩ := bR.two
          have n1 : (R.take bs).length = bs := by rw [List.length_take]; omega
          have n2 : (R.drop bs).length = R.length - bs := List.length_drop
          rw [List.take_of_length_le (by omega)] at s2
          generalize R.take bs = U at *
          generalize R.drop bs = V at *
          have h4' : Sw w4 B B' g c L (P ++ (U ++ V) ++ []) := by rw [← hR]; simpa using h4
          have hi := symMerge_c (N - A) B B' g c L P U V [] A (A + bs) N w4 rfl h4' hP (by omega) (by omega) (by omega) (by omega) s1 s2
          rw [show (P ++ (U ++ V) ++ ([] : List El)).length = N by rw [← hR]; simp only [List.length_append, List.length_nil]; omega, show ((A + bs : Nat) : Int) = (A : Int) + (bs : Int) by omega] at hi
          repeat' (first | (simp (disch := omega) only [push_cast, seval]) | refine iX ?_ ?_ <;> intros | refine aI (by omega) ?_ | refine dq ?_)
          refine hi.mono ?_
          rintro _ w5 ⟨Z, sZ, tZ, h5, c5⟩
          rw [List.append_nil] at h5
          rw [← hR] at tZ
          have hf := fin w5 Z sZ tZ h5 (c4.trans c5)
          repeat' (first | (simp (disch := omega) only [push_cast, seval, eb]) | refine iX ?_ ?_ <;> intros | refine aI (by omega) ?_ | refine dq ?_)
          exact ⟨rfl, b2, by simp (disch := omega) only [push_cast, seval, eb], hf, by dsimp only; omega⟩
        · have hf := fin w4 R (bR.whole (by omega)) (Stb.refl _) h4 c4
          repeat' (first | (simp (disch := omega) only [push_cast, seval, eb]) | refine iX ?_ ?_ <;> intros | refine aI (by omega) ?_ | refine dq ?_)
          exact ⟨rfl, b2, by simp (disch := omega) only [push_cast, seval, eb], hf, by dsimp only; omega⟩
    · have hf : ∃ l', Srt elt l' ∧ Stb elt l l' ∧ Sw w3 B B' g c L l' ∧ Chg w w3 [g] := ⟨cur, bC.whole (by omega), tC, h3, c3⟩
      repeat' (first | (simp (disch := omega) only [push_cast, seval]) | refine iX ?_ ?_ <;> intros | refine aI (by omega) ?_ | refine dq ?_)
      exact hf
theorem sortStable_c (B B' g c : Nat) (L l : List El) (w : World) (h : Sw w B B' g c L l) :
    FnC Tryz.prog 69 #[.slice (some ⟨g, 0, none⟩) l.length c, cmpV] w fun r w' => ∃ l', Srt elt l' ∧ Stb elt l l' ∧ Sw w' B B' g c L l' ∧ Chg w w' [g] := by
  refine enter69 _ _ ?_
  unfold B69
  repeat' (first | (simp (disch := omega) only [push_cast, seval]) | refine iX ?_ ?_ <;> intros | refine aI (by omega) ?_ | refine dq ?_)
  refine (stable_c B B' g c L l w h).mono ?_
  rintro _ w1 h1
  repeat' (first | (simp (disch := omega) only [push_cast, seval]) | refine iX ?_ ?_ <;> intros | refine aI (by omega) ?_ | refine dq ?_)
  exact h1
end Go.Proofs.YtnofalhkapmcnaaGreat
end
section
set_option linter.unusedSimpArgs false
namespace Go.Fold
open Go.Stab Go.Proofs.YtnofalhkapmcnaaGreat
theorem Res.stb {l l' : List R} (hs : Stb rlt l l') : (Bad l' → Bad l) ∧ ∀ out, F l' out → F l out := by
  constructor
  · rintro ⟨x, hx, hn⟩
    exact ⟨x, (hs.mem rlt_swo x).1 hx, by rw [← hs.2]; exact hn⟩
  · intro out h
    exact ⟨h.srt, fun x hx => h.nil x (by rw [hs.2]; exact hx), fun x hx => by
      obtain ⟨z, h1, h2⟩ := h.one x (by rw [hs.2]; exact hx)
      exact ⟨z, by rw [← hs.2]; exact h1, h2⟩⟩
theorem stb_abs {l l' : List El} (h : Stb elt l l') : Stb rlt (l.map El.abs) (l'.map El.abs) := by
  refine ⟨by simp [h.1], fun q => ?_⟩
  have e : ∀ m : List El, (m.map El.abs).filter (eqv rlt q) = (m.filter (eqv elt ⟨q.1, q.2.1, q.2.2.1, q.2.2.2, .slice none 0 0, .slice none 0 0⟩)).map El.abs := by
    intro m
    rw [List.filter_map]
    rfl
  rw [e, e, h.2]
theorem F.mem {l out : List R} (h : F l out) {z : R} (hz : z ∈ out) : ∃ y ∈ l, Same z y := by
  have hne : l.filter (eqv rlt z) ≠ [] := fun he => by
    have := h.nil z he
    exact mem_ne hz this
  obtain ⟨y, hy⟩ := List.exists_mem_of_ne_nil _ hne
  obtain ⟨hy, he⟩ := List.mem_filter.1 hy
  exact ⟨y, hy, eqv_same.1 he⟩
def Gd (D A : Nat) (q : R) : Prop := 1 ≤ q.2.2.1 ∧ q.2.2.1 ≤ 1048576 ∧ (∀ a ∈ q.2.2.2, ARt a) ∧ q.2.1.length = D ∧ q.2.2.2.length = A ∧ D ≤ 1000 ∧ A ≤ 1000
theorem Gd.rr {D A : Nat} {e : El} (h : Gd D A e.abs) : Rr e ∧ e.d.length = D ∧ e.a.length = A := by
  obtain ⟨h1, h2, h3, h4, h5, h6, h7⟩ := h
  have h4' : e.d.length = D := h4
  have h5' : e.a.length = A := h5
  exact ⟨⟨h1, h2, h3, by omega, by omega⟩, h4', h5'⟩
theorem Gd.join {D A : Nat} {x y z : El} (hx : Gd D A x.abs) (hy : Gd D A y.abs) (h : jn x.abs y.abs = some z.abs) : Gd D A z.abs := by
  obtain ⟨r1, d1, a1⟩ := hx.rr
  obtain ⟨r2, d2, a2⟩ := hy.rr
  obtain ⟨r3, d3, a3⟩ := JR.rr (q := z.abs) r1 r2 (by omega) h
  have d3' : z.abs.2.1.length = D := by show z.d.length = D; omega
  have a3' : z.abs.2.2.2.length = A := by show z.a.length = A; omega
  exact ⟨r3.n1, r3.n2, r3.ag, d3', a3', hx.2.2.2.2.2.1, hx.2.2.2.2.2.2⟩
end Go.Fold
namespace Go.Proofs.YtnofalhkapmcnaaGreat
open Go.Vc Go.Key Go.Stab Go.Fold
set_option maxRecDepth 100000
def JV (B : Nat) (z r : El) (v : Value) (w : World) : Prop := ∃ q e, v = .tuple #[elV q, .int .i64 e] ∧ JR z r q e ∧ EO w B q
def JE (B : Nat) (z r : El) (v : Value) (w : World) : Prop := ∃ q e, v = elV q ∧ JR z r q e ∧ EO w B q
def eJ (z r : El) : Int := if (jn z.abs r.abs).isSome then 0 else 121
theorem eJ_is {z r q : El} {e : Int} (hc : ecmp z r = 0) (h : JR z r q e) : eJ z r = e := by
  unfold eJ
  rcases h with ⟨h1, _⟩ | ⟨_, h2, h3, _⟩ | ⟨_, h2, h3⟩
  · exact absurd hc h1
  · rw [h2, h3]; rfl
  · rw [h3, h2]; rfl
theorem stb_jv (w0 : World) (B : Nat) (z r : El) : Stb w0 (JV B z r) := by
  rintro v w w' _ hl ⟨q, e, h1, h2, h3⟩
  exact ⟨q, e, h1, h2, h3.later hl⟩
theorem stb_je (w0 : World) (B : Nat) (z r : El) : Stb w0 (JE B z r) := by
  rintro v w w' _ hl ⟨q, e, h1, h2, h3⟩
  exact ⟨q, e, h1, h2, h3.later hl⟩
theorem exe_ext {P : Program} {t i : Nat} {ty : TypeId} {σ : Env} {w : World} {cs : Array Value} {u : Value} (h : σ t = .tuple cs) (hu : cs[i]? = some u) : exe P (.extract (.tmp t) i) ty σ w = .ok (.value u) w := by
  unfold exe
  simp [execOp, ev, h, hu, val, Instr.extract]
theorem nR_ext {P : Program} {t i : Nat} {ty : TypeId} {rs : List Nat} {Ns : NS} {σ : Env} {w : World} {Kv : Value → Prop} {Kn : (Value → World → Prop) → Prop} {V V' : Value → World → Prop} (ht : t ∈ rs) (hf : findN t Ns = some V) (hV' : Stb w V')
    (h : ∀ v w', V v w' → ∃ cs : Array Value, v = .tuple cs ∧ ∃ u, cs[i]? = some u ∧ V' u w') (hk : Kn V') : nR P (.extract (.tmp t) i) ty rs Ns σ w Kv Kn :=
  .inr ⟨V', hV', fun σ' w' _ hp => by
    obtain ⟨cs, h1, u, h2, h3⟩ := h _ _ (psis_V hp ht hf)
    exact nUp_pure (v := u) (exe_ext h1 h2) h3, hk⟩
theorem nR_extc {P : Program} {t i : Nat} {ty : TypeId} {rs : List Nat} {Ns : NS} {σ : Env} {w : World} {Kv : Value → Prop} {Kn : (Value → World → Prop) → Prop} {V : Value → World → Prop} {u : Value} (ht : t ∈ rs) (hf : findN t Ns = some V)
    (h : ∀ v w', V v w' → ∃ cs : Array Value, v = .tuple cs ∧ cs[i]? = some u) (hk : Kv u) : nR P (.extract (.tmp t) i) ty rs Ns σ w Kv Kn :=
  .inl ⟨u, fun σ' w' _ hp => by
    obtain ⟨cs, h1, h2⟩ := h _ _ (psis_V hp ht hf)
    exact nUp_pure (v := u) (exe_ext h1 h2) rfl, hk⟩
def FoldR (D A : Nat) (w : World) (B : Nat) (v : Value) (e : Int) (l : List R) : Prop := (e = 121 ∧ v = .slice none 0 0 ∧ Bad l) ∨ (e = 0 ∧ ∃ es, OwnE w B v es ∧ F l (es.map El.abs) ∧ ∀ z ∈ es, EO w B z ∧ Gd D A z.abs)
theorem ins0_c (w : World) : FnC Tryz.prog 138 #[.slice none 0 0, .int .i64 0, .int .i64 0, cmpV] w fun r w' => w' = w := by
  refine enter138 _ _ _ _ ?_
  unfold B138
  repeat' (first | (simp (disch := omega) only [push_cast, seval]) | refine iX ?_ ?_ <;> intros | refine aI (by omega) ?_ | refine dq ?_)
  refine vc_loop W138_0 (fun _ : Nat => [(8, .int .i64 1)]) (fun _ w' => w' = w) (fun i => i) 0 (by decide) ?_ ?_ ?_
  · simp (disch := omega) only [push_cast, seval]
  · rfl
  rintro i uu w1 hw
  obtain rfl := hw.symm
  repeat' (first | (simp (disch := omega) only [push_cast, seval]) | refine iX ?_ ?_ <;> intros | refine aI (by omega) ?_ | refine dq ?_)
  all_goals rfl
theorem stable0_c (w : World) : FnC Tryz.prog 113 #[.slice none 0 0, .int .i64 0, cmpV] w fun r w' => w' = w := by
  refine enter113 _ _ _ ?_
  unfold B113
  repeat' (first | (simp (disch := omega) only [push_cast, seval]) | refine iX ?_ ?_ <;> intros | refine aI (by omega) ?_ | refine dq ?_)
  refine vc_loop W113_0 (fun _ : Nat => [(7, .int .i64 0), (8, .int .i64 20)]) (fun _ w' => w' = w) (fun i => i) 0 (by decide) ?_ ?_ ?_
  · simp (disch := omega) only [push_cast, seval]
  · rfl
  rintro i uu w1 hw
  obtain rfl := hw.symm
  repeat' (first | (simp (disch := omega) only [push_cast, seval]) | refine iX ?_ ?_ <;> intros | refine aI (by omega) ?_ | refine dq ?_)
  refine (ins0_c w).mono ?_
  rintro _ w1 hw
  obtain rfl := hw.symm
  repeat' (first | (simp (disch := omega) only [push_cast, seval]) | refine iX ?_ ?_ <;> intros | refine aI (by omega) ?_ | refine dq ?_)
  refine vc_loop W113_1 (fun _ : Nat => [(6, .int .i64 20)]) (fun _ w' => w' = w) (fun i => i) 0 (by decide) ?_ ?_ ?_
  · simp (disch := omega) only [push_cast, seval]
  · rfl
  rintro i uu w1 hw
  obtain rfl := hw.symm
  repeat' (first | (simp (disch := omega) only [push_cast, seval]) | refine iX ?_ ?_ <;> intros | refine aI (by omega) ?_ | refine dq ?_)
  all_goals rfl
theorem sortAny_c (B : Nat) (v : Value) (es : List El) (w : World) (ho : OwnE w B v es) (hE : ∀ e ∈ es, EO w B e) (hl : es.length ≤ 1000000) : FnC Tryz.prog 69 #[v, cmpV] w fun r w' =>
    ∃ l', Srt elt l' ∧ Stb elt es l' ∧ RecS elC 4 w' v l' ∧ (∀ e ∈ l', EO w' B e) ∧ ∀ w0, Later w0 w → w0.heap.size ≤ B → Later w0 w' := by
  obtain ⟨o, c, rfl, _⟩ := RecS.slice (OwnR.s ho)
  cases o with
  | none =>
    obtain ⟨hn, hc0⟩ := (SlN.len (OwnR.s ho)).2.2.2.2 rfl
    have hn : es = [] := List.length_eq_zero_iff.1 hn
    subst hn
    have hc0 : c = 0 := hc0
    subst hc0
    refine enter69 _ _ ?_
    unfold B69
    simp only [List.length_nil]
    repeat' (first | (simp (disch := omega) only [push_cast, seval]) | refine iX ?_ ?_ <;> intros | refine aI (by omega) ?_ | refine dq ?_)
    refine (stable0_c w).mono ?_
    rintro _ w1 hw
    obtain rfl := hw.symm
    repeat' (first | (simp (disch := omega) only [push_cast, seval]) | refine iX ?_ ?_ <;> intros | refine aI (by omega) ?_ | refine dq ?_)
    exact ⟨[], srt_nil, Stb.refl _, RecS.nil _, by simp, fun w0 h _ => h⟩
  | some a =>
    obtain ⟨g, rfl, hB, _, ⟨cs, hb⟩, _⟩ := own_writes ho
    refine (sortStable_c B B g c es es w ⟨ho, hE, fun _ h => h, hl⟩).mono ?_
    rintro _ w1 ⟨l', s1, s2, s3, s4⟩
    have hl' := s2.1
    refine ⟨l', s1, s2, ?_, fun e he => s3.els e (s3.sub e he), fun w0 h hw0 => Chg.later h s4 (by intro j hj; rw [List.mem_singleton.1 hj]; omega)⟩
    rw [← hl']
    exact OwnR.s s3.own
set_option maxHeartbeats 1000000 in
theorem rfold_c (D A : Nat) (v : Value) (l : List El) (w : World) (h : RecS elC 4 w v l) (hes : ∀ e ∈ l, EIs w e ∧ Gd D A e.abs) (hl : l.length ≤ 100000) : FnC Tryz.prog 28 #[v] w fun r w' =>
    ∃ vv e, r = .tuple #[vv, .int .i64 e] ∧ FoldR D A w' w.heap.size vv e (l.map El.abs) ∧ Later w w' := by
  refine enter28 _ ?_
  unfold B28
  repeat' (first | (simp (disch := omega) only [push_cast, seval]) | refine iX ?_ ?_ <;> intros | refine aI (by omega) ?_ | refine dq ?_)
  refine (copy_c v l w h (fun e he => ⟨(hes e he).1, by have := (hes e he).2.rr.1.dl; omega, by have := (hes e he).2.rr.1.al; omega⟩) hl).mono ?_
  rintro cv w1 ⟨⟨es, ho, hab, hE⟩, l1⟩
  have hel : es.length = l.length := by have := congrArg List.length hab; simpa using this
  repeat' (first | (simp (disch := omega) only [push_cast, seval]) | refine iX ?_ ?_ <;> intros | refine aI (by omega) ?_ | refine dq ?_)
  refine (sortAny_c w.heap.size cv es w1 ho hE (by omega)).mono ?_
  rintro _ w2 ⟨l', sL, tL, rL, eL, hlat⟩
  have l02 := hlat w l1 (Nat.le_refl _)
  have hl' := tL.1
  have hst : Stb rlt (l.map El.abs) (l'.map El.abs) := by rw [← hab]; exact stb_abs tL
  have gL : ∀ e ∈ l', Gd D A e.abs := by
    intro e he
    have : e.abs ∈ l.map El.abs := (hst.mem rlt_swo _).1 (List.mem_map_of_mem he)
    obtain ⟨e0, h0, h1⟩ := List.mem_map.1 this
    rw [← h1]; exact (hes e0 h0).2
  obtain ⟨o, c, hcv, _⟩ := RecS.slice (OwnR.s ho)
  have rL' := rL
  rw [hcv, ← hl'] at rL'
  rw [hcv, ← hl']
  clear ho hE hcv rL
  repeat' (first | (simp (disch := omega) only [push_cast, seval]) | refine iX ?_ ?_ <;> intros | refine aI (by omega) ?_ | refine dq ?_)
  refine vc_loop W28_0 (fun p : Nat × Value => [(4, p.2), (16, .int .i64 (p.1 : Int))])
    (fun p w' => p.1 ≤ l'.length ∧ Later w2 w' ∧ ∃ os, OwnE w' w2.heap.size p.2 os ∧ os.length ≤ p.1 ∧ F ((l'.take p.1).map El.abs) (os.map El.abs) ∧ ∀ z ∈ os, EO w' w.heap.size z ∧ Gd D A z.abs) (fun p => l'.length - p.1) (0, .slice none 0 0) (by decide) ?_ ?_ ?_
  · simp (disch := omega) only [push_cast, seval]
  · exact ⟨by omega, Later.refl _, [], OwnR.nil _ _ _, by simp, F.start, by simp⟩
  rintro ⟨i, ov⟩ uu w3 ⟨hi, l3, os, hO, hosl, hF, hZ⟩
  dsimp only at hi hO hF hosl
  have l03 := l02.trans l3
  by_cases hlt : i < l'.length
  · obtain ⟨aa, rfl, f1⟩ := RecS.at elC_len (rL'.later l3) hlt
    have hEr := (eL l'[i] (List.getElem_mem _)).later l3
    have hGr := gL l'[i] (List.getElem_mem _)
    have htk : (l'.take (i + 1)).map El.abs = (l'.take i).map El.abs ++ [l'[i].abs] := by rw [take_snoc l' i hlt, List.map_append]; rfl
    have hord : ∀ y ∈ l'.take i, elt l'[i] y = false := by
      intro y hy
      obtain ⟨j, hj, rfl⟩ := List.getElem_of_mem hy
      rw [List.length_take] at hj
      rw [List.getElem_take]
      exact List.pairwise_iff_getElem.1 sL j i (by omega) hlt (by omega)
    have hbad : Bad ((l'.take (i + 1)).map El.abs) → Bad (l.map El.abs) := by
      intro hb
      have := hb.more ((l'.drop (i + 1)).map El.abs)
      rw [← List.map_append, List.take_append_drop] at this
      exact (Res.stb hst).1 this
    generalize hr : l'[i] = r at *
    obtain ⟨oo, oc, hov, hoc, _⟩ := RecS.slice (OwnR.s hO)
    subst hov
    repeat' (first | (simp (disch := omega) only [push_cast, seval, f1]) | refine iX ?_ ?_ <;> intros | refine aI (by omega) ?_ | refine dq ?_)
    refine vStore_new rfl rfl (by simpa using elC_one hEr.is) ?_
    have l4 := later_alloc w3 (.cells (elC r).toArray 55)
    have B4 := Blk.new w3 (elC r).toArray 55
    generalize w3.alloc (.cells (elC r).toArray 55) = w4 at *
    generalize w3.heap.size = k4 at *
    have f4 : cellsAt w4 ⟨k4, 0, none⟩ 4 = some (elC r) := Blk.cellsAt (l := elC r) B4
    have f4' : cellsAt w4 ⟨k4, 0, none⟩ 4 = some [.int .i64 r.t, r.dv, .int .i64 r.n, r.av] := f4
    have hle : ∀ q ∈ os, rlt r.abs q.abs = false := by
      intro q hq
      obtain ⟨y, hy, hs⟩ := hF.mem (List.mem_map_of_mem hq)
      obtain ⟨y0, hy0, rfl⟩ := List.mem_map.1 hy
      rw [rlt_r hs]
      exact hord y0 hy0
    rcases List.eq_nil_or_concat os with hn | ⟨T, z, hn⟩
    · subst hn
      simp only [List.length_nil]
      repeat' (first | (simp (disch := omega) only [push_cast, seval]) | refine iX ?_ ?_ <;> intros | refine aI (by omega) ?_ | refine dq ?_)
      intro w5 l5
      have f5 := cellsAt_later l5 4 f4'
      repeat' (first | (simp (disch := omega) only [push_cast, seval, f5]) | refine iX ?_ ?_ <;> intros | refine aI (by omega) ?_ | refine dq ?_)
      have la := later_alloc w5 (.cells #[.int .i64 r.t, r.dv, .int .i64 r.n, r.av] 55)
      have Bl := Blk.new w5 #[.int .i64 r.t, r.dv, .int .i64 r.n, r.av] 55
      have l45 := (l4.trans l5).trans la
      have hO5 := hO.later l45
      have hE5 := hEr.later l45
      refine vAppend_e (r := [r]) hO5 (RecS.lit1 (elC_len r) Bl) (by intro q hq; rw [List.mem_singleton.1 hq]; exact hE5.is) (by simp only [List.length_append, List.length_cons, List.length_nil] at *; omega) (Nat.le_trans l3.size l45.size) ?_
      intro v' w6 ho6 hg _
      have l26 := (l3.trans l45).appended hO5 (Nat.le_refl _) hg
      have hF6 : F ((l'.take (i + 1)).map El.abs) ((([] : List El) ++ [r]).map El.abs) := by
        rw [htk, List.map_append, List.map_singleton]
        exact F.add (A := ([] : List El).map El.abs) (B := []) (by simpa using hF) (by simp) (by simp)
      have hZ6 : ∀ q ∈ ([] : List El) ++ [r], EO w6 w.heap.size q ∧ Gd D A q.abs := by
        intro q hq
        rcases List.mem_append.1 hq with hq | hq
        · exact ⟨((hZ q hq).1.later l45).grown hO5 hg, (hZ q hq).2⟩
        · rw [List.mem_singleton.1 hq]; exact ⟨hE5.grown hO5 hg, hGr⟩
      repeat' (first | (simp (disch := omega) only [push_cast, seval]) | refine iX ?_ ?_ <;> intros | refine aI (by omega) ?_ | refine dq ?_)
      exact ⟨rfl, (i + 1, v'), by simp (disch := omega) only [push_cast, seval], ⟨by dsimp only; omega, l26, ([] : List El) ++ [r], ho6, by dsimp only; simp only [List.length_append, List.length_cons, List.length_nil] at *; omega, hF6, hZ6⟩, by dsimp only; omega⟩
    · have hn : os = T ++ [z] := by simpa using hn
      subst hn
      obtain ⟨ab, rfl, fz⟩ := RecS.at elC_len (OwnR.s (hO.later l4)) (i := T.length) (by simp)
      have ez : (T ++ [z])[T.length]'(by simp) = z := by simp
      rw [ez] at fz
      have e1 : (((T ++ [z]).length : Int) - 1).toNat = T.length := by simp
      have e2 : ((T ++ [z]).length : Int) = (T.length : Int) + 1 := by simp
      have hTn : (T ++ [z]).length = T.length + 1 := by simp
      obtain ⟨hEz, hGz⟩ := hZ z (by simp)
      have hcond : ecmp z r ≠ 0 → ∀ q ∈ (T ++ [z]).map El.abs, rlt q r.abs = true := by
        intro hc
        have hz : rlt z.abs r.abs = true := by
          have h1 := hle z (by simp)
          have hk := ckey_is z.t z.d r.t r.d
          have h2 : ¬ ckey r.t r.d z.t z.d < 0 := of_decide_eq_false h1
          rcases hk with ⟨k1, k2, _⟩ | ⟨k1, _⟩ | ⟨k1, k2, _⟩
          · show decide (ckey z.t z.d r.t r.d < 0) = true
            rw [k1]; rfl
          · exact absurd k1 hc
          · rw [k2] at h2; exact absurd (by decide) h2
        intro q hq
        rw [List.map_append] at hq
        rcases List.mem_append.1 hq with hq | hq
        · have hs := hF.srt
          rw [List.map_append, List.pairwise_append] at hs
          exact rlt_swo.lt_le (hs.2.2 q hq z.abs (by simp)) (hle z (by simp))
        · simp only [List.map_singleton, List.mem_singleton] at hq
          rw [hq]; exact hz
      rw [hTn] at hosl
      have e3 : ((T.length + 1 : Nat) : Int) - 1 = (T.length : Int) := by omega
      have e4 : (T.length : Int) + 1 - 1 = (T.length : Int) := by omega
      rw [hTn]
      repeat' (first | (simp (disch := omega) only [push_cast, seval, e4, fz, f4]) | refine iX ?_ ?_ <;> intros | refine aI (by omega) ?_ | refine dq ?_)
      refine QFn.of hb70 (v := .int .i64 (ecmp z r)) (fun w' hl => rcompare_c z r w' ((hEz.later l4).is.later hl) ((hEr.later l4).is.later hl)) ?_
      by_cases hc : ecmp z r = 0
      · obtain ⟨rz, dz, az⟩ := hGz.rr
        obtain ⟨rr, dr, ar⟩ := hGr.rr
        repeat' (first | (simp (disch := omega) only [push_cast, seval]) | refine iX ?_ ?_ <;> intros | refine aI (by omega) ?_ | refine dq ?_)
        intro w5 l5
        have fz5 := cellsAt_later l5 4 fz
        have f5 := cellsAt_later l5 4 f4
        have l45 := l4.trans l5
        have hz5 := (hEz.later l45).is
        have hr5 := (hEr.later l45).is
        have hsz5 : w.heap.size ≤ w5.heap.size := (l03.trans l45).size
        repeat' (first | (simp (disch := omega) only [push_cast, seval]) | refine iX ?_ ?_ <;> intros | refine aI (by omega) ?_ | fail)
        refine drawnS_k 11 ?_
        repeat' (first | (simp (disch := omega) only [push_cast, seval, e4, fz5, f5]) | refine iX ?_ ?_ <;> intros | refine aI (by omega) ?_ | fail)
        refine NFn.of hb71 (JV w.heap.size z r) (stb_jv _ _ _ _) (fun w' hl => (rjoin_c z r w' (hz5.later hl) (hr5.later hl) rz rr (by omega)).mono ?_) ?_
        · rintro v w'' ⟨q, e, rfl, hj, hE, hl'⟩
          exact ⟨⟨q, e, rfl, hj, hE.base (Nat.le_trans hsz5 hl.size)⟩, hl'⟩
        repeat' (first | (simp (disch := omega) only [push_cast, seval]) | refine iX ?_ ?_ <;> intros | refine aI (by omega) ?_ | fail)
        refine nR_move (t := 45) (by simp) rfl (stb_jv _ _ _ _) ?_
        repeat' (first | (simp (disch := omega) only [push_cast, seval]) | refine iX ?_ ?_ <;> intros | refine aI (by omega) ?_ | fail)
        refine nR_ext (t := 38) (V := JV w.heap.size z r) (V' := JE w.heap.size z r) (by simp) rfl (stb_je _ _ _ _) (fun v w' hv => ?_) ?_
        · obtain ⟨q, e, rfl, hj, hE⟩ := hv
          exact ⟨_, rfl, elV q, rfl, q, e, rfl, hj, hE⟩
        repeat' (first | (simp (disch := omega) only [push_cast, seval]) | refine iX ?_ ?_ <;> intros | refine aI (by omega) ?_ | fail)
        refine nR_extc (t := 38) (V := JV w.heap.size z r) (u := .int .i64 (eJ z r)) (by simp) rfl (fun v w' hv => ?_) ?_
        · obtain ⟨q, e, rfl, hj, hE⟩ := hv
          exact ⟨_, rfl, by rw [eJ_is hc hj]; rfl⟩
        repeat' (first | (simp (disch := omega) only [push_cast, seval]) | refine iX ?_ ?_ <;> intros | refine aI (by omega) ?_ | fail)
        refine nA_of _ (PtV w5 55 #[.int .i64 0, .slice none 0 0, .int .i64 0, .slice none 0 0]) (stb_pt _ _ _ _) (fun w' hl => ?_) ?_
        · repeat' (first | (simp (disch := omega) only [push_cast, seval]) | refine iX ?_ ?_ <;> intros | refine aI (by omega) ?_ | fail)
          exact ⟨later_alloc _ _, w'.heap.size, rfl, hl.size, Blk.new _ _ _⟩
        repeat' (first | (simp (disch := omega) only [push_cast, seval]) | refine iX ?_ ?_ <;> intros | refine aI (by omega) ?_ | fail)
        refine ⟨rfl, fun w6 l6 => ?_⟩
        rintro _ ⟨b8, rfl, hb8, B8⟩ _ ⟨q, e, rfl, hj, hq⟩ _ ⟨q2, e2, rfl, hj2, _⟩ _ _
        have ee2 : eJ z r = e2 := eJ_is hc hj2
        have ee : eJ z r = e := eJ_is hc hj
        refine ⟨by simp (disch := omega) only [push_cast, seval, ee2, implies_true, and_self], ?_⟩
        unfold elV
        repeat' (first | (simp (disch := omega) only [push_cast, seval]) | refine iX ?_ ?_ <;> intros | refine aI (by omega) ?_ | fail)
        refine vStore_blk (l := [.int .i64 0, .slice none 0 0, .int .i64 0, .slice none 0 0]) (xs := elC q) B8 rfl rfl (elC_one hq.is) ?_
        intro w7 B7 c7
        have l57 := Chg.later l6 c7 (by intro j hj; rw [List.mem_singleton.1 hj]; exact hb8)
        have hq7 := hq.chg B8 c7
        have l37 := l45.trans l57
        have hsame : Same z.abs r.abs := cmp_zero.1 hc
        have hjoin := F.join (l := (l'.take i).map El.abs) (A := T.map El.abs) (B := []) (b := z.abs) (by rw [List.map_append] at hF; exact hF) hsame
        rw [← htk] at hjoin
        rcases hj with ⟨h1, _⟩ | ⟨_, h2, h3, _⟩ | ⟨_, h2, h3⟩
        · exact absurd hc h1
        · rw [ee, h3]
          repeat' (first | (simp (disch := omega) only [push_cast, seval]) | refine iX ?_ ?_ <;> intros | refine aI (by omega) ?_ | refine dq ?_)
          exact ⟨.slice none 0 0, 121, rfl, .inl ⟨rfl, rfl, hbad (hjoin.1 h2)⟩, l03.trans l37⟩
        · rw [ee, h2]
          have f7 : cellsAt w7 ⟨b8, 0, none⟩ 4 = some (elC q) := Blk.cellsAt (l := elC q) B7
          have hO7 := hO.later l37
          rw [hTn] at hO7
          obtain ⟨g, rfl, hB, ⟨cs, hb⟩, hcan, ho8, hc8⟩ := OwnR.set elC_len hO7 (i := T.length) (by simp) q
          rw [addr_add_eq, Nat.zero_add] at hcan ho8 hc8
          repeat' (first | (simp (disch := omega) only [push_cast, seval, e4, f7, addr_add_eq, Nat.zero_add]) | refine iX ?_ ?_ <;> intros | refine aI (by omega) ?_ | refine dq ?_)
          refine ⟨rfl, by simpa [Value.cells] using elC_one hq7.is, by simpa [Value.cells] using hcan, ?_⟩
          have ex : (Value.agg (elC q).toArray).cells.toList = elC q := by simp [Value.cells]
          rw [ex]
          have hset : (T ++ [z]).set T.length q = T ++ [q] := by simp
          rw [hset] at ho8
          generalize storeAll w7 ⟨g, T.length * 4, none⟩ (elC q) = w8 at *
          have hF8 := hjoin.2 q.abs h3
          repeat' (first | (simp (disch := omega) only [push_cast, seval]) | refine iX ?_ ?_ <;> intros | refine aI (by omega) ?_ | refine dq ?_)
          refine ⟨rfl, (i + 1, .slice (some ⟨g, 0, none⟩) (T.length + 1) oc), by simp (disch := omega) only [push_cast, seval], ⟨by dsimp only; omega, Chg.later (l3.trans l37) hc8 (by intro j hj; rw [List.mem_singleton.1 hj]; exact hB), T ++ [q], ho8, by dsimp only; simp; omega, by simpa using hF8, fun y hy => ?_⟩, by dsimp only; omega⟩
          rcases List.mem_append.1 hy with hy | hy
          · exact ⟨((hZ y (by simp [hy])).1.later l37).chg hb hc8, (hZ y (by simp [hy])).2⟩
          · rw [List.mem_singleton.1 hy]
            exact ⟨hq7.chg hb hc8, hGz.join hGr h3⟩
      · repeat' (first | (simp (disch := omega) only [push_cast, seval]) | refine iX ?_ ?_ <;> intros | refine aI (by omega) ?_ | refine dq ?_)
        intro w5 l5
        have f5 := cellsAt_later l5 4 f4'
        repeat' (first | (simp (disch := omega) only [push_cast, seval, f5]) | refine iX ?_ ?_ <;> intros | refine aI (by omega) ?_ | refine dq ?_)
        have la := later_alloc w5 (.cells #[.int .i64 r.t, r.dv, .int .i64 r.n, r.av] 55)
        have Bl := Blk.new w5 #[.int .i64 r.t, r.dv, .int .i64 r.n, r.av] 55
        have l45 := (l4.trans l5).trans la
        have hO5 := hO.later l45
        rw [hTn] at hO5
        have hE5 := hEr.later l45
        refine vAppend_e (r := [r]) hO5 (RecS.lit1 (elC_len r) Bl) (by intro q hq; rw [List.mem_singleton.1 hq]; exact hE5.is) (by simp only [List.length_append, List.length_cons, List.length_nil] at *; omega) (Nat.le_trans l3.size l45.size) ?_
        intro v' w6 ho6 hg _
        have l26 := (l3.trans l45).appended hO5 (Nat.le_refl _) hg
        have hF6 : F ((l'.take (i + 1)).map El.abs) (((T ++ [z]) ++ [r]).map El.abs) := by
          rw [htk, List.map_append, List.map_singleton]
          exact F.add (A := (T ++ [z]).map El.abs) (B := []) (by simpa using hF) (hcond hc) (by simp)
        have hZ6 : ∀ q ∈ (T ++ [z]) ++ [r], EO w6 w.heap.size q ∧ Gd D A q.abs := by
          intro q hq
          rcases List.mem_append.1 hq with hq | hq
          · exact ⟨((hZ q hq).1.later l45).grown hO5 hg, (hZ q hq).2⟩
          · rw [List.mem_singleton.1 hq]; exact ⟨hE5.grown hO5 hg, hGr⟩
        repeat' (first | (simp (disch := omega) only [push_cast, seval]) | refine iX ?_ ?_ <;> intros | refine aI (by omega) ?_ | refine dq ?_)
        exact ⟨rfl, (i + 1, v'), by simp (disch := omega) only [push_cast, seval], ⟨by dsimp only; omega, l26, (T ++ [z]) ++ [r], ho6, by dsimp only; simp only [List.length_append, List.length_cons, List.length_nil] at *; omega, hF6, hZ6⟩, by dsimp only; omega⟩
  · have e : i = l'.length := by omega
    subst e
    rw [List.take_length] at hF
    have hf : FoldR D A w3 w.heap.size ov 0 (l.map El.abs) := .inr ⟨rfl, os, hO.base l02.size, (Res.stb hst).2 _ hF, hZ⟩
    repeat' (first | (simp (disch := omega) only [push_cast, seval]) | refine iX ?_ ?_ <;> intros | refine aI (by omega) ?_ | refine dq ?_)
    exact ⟨_, _, rfl, hf, l03⟩
end Go.Proofs.YtnofalhkapmcnaaGreat
end
section
namespace Go.Proofs.YtnofalhkapmcnaaGreat
open Go.Vc Go.Key Go.Cub Go.Fold Go.Stab
set_option maxRecDepth 100000
structure PS (w0 w : World) (b B : Nat) (t n : Int) (av : Value) (ds : List ByteArray) : Prop where
  later : Later w0 w
  cur : ∃ dv, Blk w b #[.int .i64 t, dv, .int .i64 n, av] 55 ∧ OwnS w B dv ds
theorem PS.step {w0 w w' : World} {b B : Nat} {t n : Int} {av : Value} {ds : List ByteArray} (h : PS w0 w b B t n av ds) (hl : Later w w') : PS w0 w' b B t n av ds := by
  obtain ⟨h1, dv, h2, h3⟩ := h
  exact ⟨h1.trans hl, dv, h2.chg (Chg.of_later (ks := []) hl) (by simp), own_later h3 hl⟩
theorem PS.snoc {w0 w8 w9 : World} {b B : Nat} {t n : Int} {av dv v' : Value} {ds : List ByteArray} {s : ByteArray} (l : Later w0 w8) (hb : w0.heap.size ≤ b) (hB : w0.heap.size ≤ B) (h : Blk w8 b #[.int .i64 t, dv, .int .i64 n, av] 55) (ho : OwnS w8 B dv ds) (ho' : OwnS w9 B v' (ds ++ [s])) (hg : w8.grownBy w9 dv.ownBlock) :
    w9.frozen? ⟨b, 1, none⟩ = false ∧ (∃ y, w9.cell? ⟨b, 1, none⟩ = some y) ∧ PS w0 (w9.setCell ⟨b, 1, none⟩ v') b B t n av (ds ++ [s]) := by
  have q4 : Blk w9 b _ 55 := grown_obj ho hg h (fun cs h => by simp at h)
  have q5 := l.appended ho hB hg
  have gc := chg_setCell (i := 1) w9 (ks := [b]) (k := b) (by simp) v'
  exact ⟨q4.frozen 1, ⟨_, q4.cell 1⟩, gc.later q5 (by intro j hj; rw [List.mem_singleton.1 hj]; omega), v', q4.set 1 v', own_chg_ty ho' q4 (by decide) gc⟩
theorem PS.el {w0 w : World} {b B : Nat} {t n : Int} {av : Value} {ds : List ByteArray} {a : List Ag} (h : PS w0 w b B t n av ds) (ha : AgS w av a) : ∃ z : El, z.abs = (t, ds, n, a) ∧ EIs w z ∧ cellsAt w ⟨b, 0, none⟩ 4 = some (elC z) ∧ OwnS w B z.dv z.d ∧ z.av = av ∧ z.a = a := by
  obtain ⟨_, dv, h2, h3⟩ := h
  exact ⟨⟨t, ds, n, a, dv, av⟩, rfl, ⟨Sl.of_own h3, ha⟩, Blk.cellsAt (l := elC ⟨t, ds, n, a, dv, av⟩) h2, h3, rfl, rfl⟩
def vals (d dims : List ByteArray) (x : List ByteArray) : List ByteArray := dims.map fun n => x[(fi d n).getD 0]!
theorem vals_take {d dims x : List ByteArray} {i : Nat} (hi : i < dims.length) {k : Nat} (hk : fi d dims[i] = some k) (hx : k < x.length) : vals d (dims.take (i + 1)) x = vals d (dims.take i) x ++ [x[k]] := by
  unfold vals
  rw [take_snoc dims i hi, List.map_append, List.map_singleton, hk, Option.getD_some, getElem!_pos x k hx]
def Pz (w : World) (x : El) (q : R) (z : El) : Prop := z.abs = q ∧ z.av = x.av ∧ z.a = x.a ∧ ∃ B, OwnS w B z.dv z.d
theorem Pz.is {w : World} {x z : El} {q : R} (h : Pz w x q z) (hx : EIs w x) : EIs w z := by
  obtain ⟨_, h2, h3, B, h4⟩ := h
  exact ⟨Sl.of_own h4, by rw [h2, h3]; exact hx.2⟩
theorem Pz.later {w w' : World} {x z : El} {q : R} (h : Pz w x q z) (hl : Later w w') : Pz w' x q z := by
  obtain ⟨h1, h2, h3, B, h4⟩ := h
  exact ⟨h1, h2, h3, B, own_later h4 hl⟩
theorem Pz.grown {w w' : World} {x z : El} {q : R} {B : Nat} {v : Value} {es : List El} (h : Pz w x q z) (hv : OwnE w B v es) (g : w.grownBy w' v.ownBlock) : Pz w' x q z := by
  obtain ⟨h1, h2, h3, B', h4⟩ := h
  refine ⟨h1, h2, h3, B', ?_⟩
  have gc := Chg.of_grown g
  obtain ⟨o, c, rfl, _⟩ := RecS.slice (OwnR.s hv)
  cases o with
  | none => exact own_later h4 ⟨gc.os, gc.tape, gc.output, gc.size, fun k hk => gc.block k hk (by simp [Value.ownBlock])⟩
  | some a =>
    obtain ⟨k, rfl, _, _, ⟨cs, hb⟩, _⟩ := own_writes hv
    exact own_chg_ty h4 hb (by decide) gc
def Cr (D A : Nat) (e : El) : Prop := Gd D A e.abs ∧ 0 ≤ e.t ∧ e.t ≤ 1099511627776
def plc (d dims : List ByteArray) : List Int := dims.map fun n => (((fi d n).getD 0 : Nat) : Int)
theorem plc_snoc {d dims : List ByteArray} {i : Nat} (hi : i < dims.length) : plc d (dims.take (i + 1)) = plc d (dims.take i) ++ [(((fi d dims[i]).getD 0 : Nat) : Int)] := by
  unfold plc; rw [take_snoc dims i hi, List.map_append]; rfl
end Go.Proofs.YtnofalhkapmcnaaGreat
end
section
set_option linter.unusedSimpArgs false
namespace Go.Proofs.YtnofalhkapmcnaaGreat
open Go.Vc Go.Key
set_option maxRecDepth 100000
def RtOk (nd nm : Nat) (e : El) : Prop := e.d.length = nd ∧ e.a.length = nm ∧ (∀ s ∈ e.d, VlOk s) ∧ (∀ a ∈ e.a, ARt a) ∧ 0 ≤ e.t ∧ e.t ≤ 1099511627776 ∧ 1 ≤ e.n ∧ e.n ≤ 1048576
instance (nd nm : Nat) (e : El) : Decidable (RtOk nd nm e) := inferInstanceAs (Decidable (e.d.length = nd ∧ e.a.length = nm ∧ (∀ s ∈ e.d, VlOk s) ∧ (∀ a ∈ e.a, ARt a) ∧ 0 ≤ e.t ∧ e.t ≤ 1099511627776 ∧ 1 ≤ e.n ∧ e.n ≤ 1048576))
theorem boxSR (w : World) (dv mv : Value) (y : El) : Later w ((w.alloc (.cells #[dv, mv] 24)).alloc (.cells #[.int .i64 y.t, y.dv, .int .i64 y.n, y.av] 55)) ∧ ((w.alloc (.cells #[dv, mv] 24)).alloc (.cells #[.int .i64 y.t, y.dv, .int .i64 y.n, y.av] 55)).heap.size = w.heap.size + 2 ∧
    ∀ w', Later ((w.alloc (.cells #[dv, mv] 24)).alloc (.cells #[.int .i64 y.t, y.dv, .int .i64 y.n, y.av] 55)) w' →
      w'.cell? ⟨w.heap.size, 0, none⟩ = some dv ∧ w'.cell? ⟨w.heap.size, 1, none⟩ = some mv ∧ cellsAt w' ⟨w.heap.size, 0, none⟩ 2 = some [dv, mv] ∧
      w'.cell? ⟨w.heap.size + 1, 0, none⟩ = some (.int .i64 y.t) ∧ w'.cell? ⟨w.heap.size + 1, 1, none⟩ = some y.dv ∧ w'.cell? ⟨w.heap.size + 1, 2, none⟩ = some (.int .i64 y.n) ∧ w'.cell? ⟨w.heap.size + 1, 3, none⟩ = some y.av ∧ cellsAt w' ⟨w.heap.size + 1, 0, none⟩ 4 = some (elC y) := by
  obtain ⟨l1, s1, F⟩ := box2 w dv mv 24
  generalize w.alloc (.cells #[dv, mv] 24) = w1 at *
  have l2 := later_alloc w1 (.cells #[.int .i64 y.t, y.dv, .int .i64 y.n, y.av] 55)
  have B2 := Blk.new w1 #[.int .i64 y.t, y.dv, .int .i64 y.n, y.av] 55
  have s2 : (w1.alloc (.cells #[.int .i64 y.t, y.dv, .int .i64 y.n, y.av] 55)).heap.size = w1.heap.size + 1 := World.size_alloc w1 _
  generalize w1.alloc (.cells #[.int .i64 y.t, y.dv, .int .i64 y.n, y.av] 55) = w2 at *
  rw [s1] at B2
  refine ⟨l1.trans l2, by omega, fun w' hl => ?_⟩
  obtain ⟨f0, f1, f2⟩ := F w' (l2.trans hl)
  obtain ⟨b0, b1, b2, b3, b4⟩ := box4_later B2 hl
  exact ⟨f0, f1, f2, b0, b1, b2, b3, b4⟩
theorem dright_c (dv mv : Value) (d m : List ByteArray) (y : El) (w : World) (h : ScIs w dv mv d m) (hy : EIs w y) (hz : StZ y.d) : FnC Tryz.prog 55 #[scV dv mv, elV y] w fun r w' => r = .bool (decide (RtOk d.length m.length y)) ∧ Later w w' := by
  unfold scV elV
  obtain ⟨od, cd, hdv⟩ := Sl.slice h.dS
  obtain ⟨om, cm, hmv⟩ := Sl.slice h.mS
  have hyd := hy.1
  have hya := hy.2
  obtain ⟨oy, cy, hydv⟩ := Sl.slice hy.1
  obtain ⟨oa, ca, hyav, ga1, ga2⟩ := RecS.slice hy.2
  have gd := (Sl.len (hydv ▸ hyd)).2
  rw [List.length_map] at hdv hmv hydv gd
  have hmax : maxLen = 9223372036854775807 := rfl
  rw [hmax] at gd
  refine enter55 _ _ ?_
  unfold B55
  obtain ⟨l2, s2, F⟩ := boxSR w dv mv y
  have s1 := World.size_alloc w (.cells #[dv, mv] 24)
  have eca : (Value.agg #[dv, mv]).cells = #[dv, mv] := rfl
  have ecb : (Value.agg #[.int .i64 y.t, y.dv, .int .i64 y.n, y.av]).cells = #[.int .i64 y.t, y.dv, .int .i64 y.n, y.av] := rfl
  repeat' (first | (simp (disch := omega) only [push_cast, seval, eca, ecb, s1, s2]) | refine iX ?_ ?_ <;> intros | refine aI (by omega) ?_ | fail)
  generalize ((w.alloc (.cells #[dv, mv] 24)).alloc (.cells #[.int .i64 y.t, y.dv, .int .i64 y.n, y.av] 55)) = w2 at *
  have F' : ∀ w', Later w2 w' → w'.cell? ⟨w.heap.size, 0, none⟩ = some (.slice od d.length cd) ∧ w'.cell? ⟨w.heap.size, 1, none⟩ = some (.slice om m.length cm) ∧
      w'.cell? ⟨w.heap.size + 1, 0, none⟩ = some (.int .i64 y.t) ∧ w'.cell? ⟨w.heap.size + 1, 1, none⟩ = some (.slice oy y.d.length cy) ∧ w'.cell? ⟨w.heap.size + 1, 2, none⟩ = some (.int .i64 y.n) ∧ w'.cell? ⟨w.heap.size + 1, 3, none⟩ = some (.slice oa y.a.length ca) := by
    intro w' hl
    obtain ⟨f0, f1, _, b0, b1, b2, b3, _⟩ := F w' hl
    rw [hdv] at f0
    rw [hmv] at f1
    rw [hydv] at b1
    rw [hyav] at b3
    exact ⟨f0, f1, b0, b1, b2, b3⟩
  rw [hydv] at hyd
  rw [hyav] at hya
  clear F hdv hmv hydv hyav eca ecb s1 s2
  obtain ⟨f0, f1, b0, b1, b2, b3⟩ := F' w2 (Later.refl _)
  have no : (¬ RtOk d.length m.length y) → decide (RtOk d.length m.length y) = false := fun h => decide_eq_false h
  by_cases hd : y.d.length = d.length
  case neg =>
    have hno := no fun h => hd h.1
    repeat' (first | (simp (disch := omega) only [push_cast, seval, f0, f1, b1, b3, addr_add_eq, Nat.zero_add]) | refine iX ?_ ?_ <;> intros | refine aI (by omega) ?_ | refine dq ?_)
    first | exact ⟨by rw [hno], l2⟩ | exact l2
  by_cases hm : y.a.length = m.length
  case neg =>
    have hno := no fun h => hm h.2.1
    repeat' (first | (simp (disch := omega) only [push_cast, seval, f0, f1, b1, b3, addr_add_eq, Nat.zero_add]) | refine iX ?_ ?_ <;> intros | refine aI (by omega) ?_ | refine dq ?_)
    first | exact ⟨by rw [hno], l2⟩ | exact l2
  repeat' (first | (simp (disch := omega) only [push_cast, seval, f0, f1, b1, b3, addr_add_eq, Nat.zero_add]) | refine iX ?_ ?_ <;> intros | refine aI (by omega) ?_ | refine dq ?_)
  refine vc_loop W55_0 (fun i : Nat => [(4, .bool false), (5, .int .i64 (i : Int))])
    (fun i w' => i ≤ y.d.length ∧ Later w2 w' ∧ (∀ j (h : j < y.d.length), j < i → VlOk y.d[j])) (fun i => y.d.length - i) 0 (by decide) ?_ ?_ ?_
  · simp (disch := omega) only [push_cast, seval]
  · exact ⟨by omega, Later.refl _, fun j _ hj => absurd hj (Nat.not_lt_zero _)⟩
  rintro i uu w3 ⟨hi, l3, hA⟩
  have l03 := l2.trans l3
  obtain ⟨f0, f1, b0, b1, b2, b3⟩ := F' w3 l3
  by_cases hlt : i < y.d.length
  · cases oy with
    | none => have := (Sl.len hyd).2.2.2 rfl; simp at this; rw [this.1] at hlt; simp at hlt
    | some ad =>
    have hc := StS.atS (Sl.later hyd l03) hlt
    repeat' (first | (simp (disch := omega) only [push_cast, seval, b1, hc, addr_add_eq, Nat.zero_add]) | refine iX ?_ ?_ <;> intros | refine aI (by omega) ?_ | refine dq ?_)
    refine (dvalue_c y.d[i] w3 (hz _ (List.getElem_mem _))).mono ?_
    rintro _ w0 ⟨rfl, h0⟩
    obtain rfl := h0.symm
    by_cases hv : VlOk y.d[i]
    · rw [decide_eq_true hv]
      repeat' (first | (simp (disch := omega) only [push_cast, seval]) | refine iX ?_ ?_ <;> intros | refine aI (by omega) ?_ | refine dq ?_)
      refine ⟨rfl, i + 1, by simp (disch := omega) only [push_cast, seval], ⟨by omega, l3, fun j hj hji => ?_⟩, by dsimp only; omega⟩
      by_cases h : j < i
      · exact hA j hj h
      · have : j = i := by omega
        subst this
        exact hv
    · have hno := no fun h => hv (h.2.2.1 _ (List.getElem_mem _))
      rw [decide_eq_false hv]
      repeat' (first | (simp (disch := omega) only [push_cast, seval]) | refine iX ?_ ?_ <;> intros | refine aI (by omega) ?_ | refine dq ?_)
      first | exact ⟨by rw [hno], l03⟩ | exact l03
  have hvs : ∀ s ∈ y.d, VlOk s := fun s hs => by
    obtain ⟨j, hj, rfl⟩ := List.getElem_of_mem hs
    exact hA j hj (by omega)
  repeat' (first | (simp (disch := omega) only [push_cast, seval, b1, addr_add_eq, Nat.zero_add]) | refine iX ?_ ?_ <;> intros | refine aI (by omega) ?_ | refine dq ?_)
  refine vc_loop W55_1 (fun i : Nat => [(4, .bool false), (7, .int .i64 (i : Int))])
    (fun i w' => i ≤ y.a.length ∧ Later w2 w' ∧ (∀ j (h : j < y.a.length), j < i → ARt y.a[j])) (fun i => y.a.length - i) 0 (by decide) ?_ ?_ ?_
  · simp (disch := omega) only [push_cast, seval]
  · exact ⟨by omega, l3, fun j _ hj => absurd hj (Nat.not_lt_zero _)⟩
  rintro i uu2 w4 ⟨hi, l4, hB⟩
  have l04 := l2.trans l4
  obtain ⟨f0, f1, b0, b1, b2, b3⟩ := F' w4 l4
  by_cases hlt : i < y.a.length
  · obtain ⟨ad, rfl, hc⟩ := RecS.at agC_len (hya.later l04) hlt
    unfold agC at hc
    repeat' (first | (simp (disch := omega) only [push_cast, seval, b3, hc, addr_add_eq, Nat.zero_add]) | refine iX ?_ ?_ <;> intros | refine aI (by omega) ?_ | refine dq ?_)
    refine (caright_c y.a[i] w4).mono ?_
    rintro _ w5 ⟨rfl, l5⟩
    by_cases hv : ARt y.a[i]
    · rw [decide_eq_true hv]
      repeat' (first | (simp (disch := omega) only [push_cast, seval]) | refine iX ?_ ?_ <;> intros | refine aI (by omega) ?_ | refine dq ?_)
      refine ⟨rfl, i + 1, by simp (disch := omega) only [push_cast, seval], ⟨by omega, l4.trans l5, fun j hj hji => ?_⟩, by dsimp only; omega⟩
      by_cases h : j < i
      · exact hB j hj h
      · have : j = i := by omega
        subst this
        exact hv
    · have hno := no fun h => hv (h.2.2.2.1 _ (List.getElem_mem _))
      rw [decide_eq_false hv]
      repeat' (first | (simp (disch := omega) only [push_cast, seval]) | refine iX ?_ ?_ <;> intros | refine aI (by omega) ?_ | refine dq ?_)
      first | exact ⟨by rw [hno], (l04.trans l5)⟩ | exact (l04.trans l5)
  have has : ∀ a ∈ y.a, ARt a := fun s hs => by
    obtain ⟨j, hj, rfl⟩ := List.getElem_of_mem hs
    exact hB j hj (by omega)
  have hdec : RtOk d.length m.length y ↔ (0 ≤ y.t ∧ y.t ≤ 1099511627776 ∧ 1 ≤ y.n ∧ y.n ≤ 1048576) := ⟨fun h => h.2.2.2.2, fun h => ⟨hd, hm, hvs, has, h⟩⟩
  rw [decide_eq_decide.2 hdec]
  by_cases h1 : 0 ≤ y.t
  · by_cases h2 : y.t ≤ 1099511627776
    · by_cases h3 : 1 ≤ y.n
      · by_cases h4 : y.n ≤ 1048576
        · repeat' (first | (simp (disch := omega) only [push_cast, seval, b0, b2, b3, addr_add_eq, Nat.zero_add]) | refine iX ?_ ?_ <;> intros | refine aI (by omega) ?_ | refine dq ?_)
          first | exact ⟨congrArg Value.bool ((decide_eq_true (by omega)).trans (decide_eq_true (by omega)).symm), l04⟩ | exact l04
        · repeat' (first | (simp (disch := omega) only [push_cast, seval, b0, b2, b3, addr_add_eq, Nat.zero_add]) | refine iX ?_ ?_ <;> intros | refine aI (by omega) ?_ | refine dq ?_)
          first | exact ⟨congrArg Value.bool ((decide_eq_false (by omega)).trans (decide_eq_false (by omega)).symm), l04⟩ | exact l04
      · repeat' (first | (simp (disch := omega) only [push_cast, seval, b0, b2, b3, addr_add_eq, Nat.zero_add]) | refine iX ?_ ?_ <;> intros | refine aI (by omega) ?_ | refine dq ?_)
        first | exact ⟨congrArg Value.bool ((decide_eq_false (by omega)).trans (decide_eq_false (by omega)).symm), l04⟩ | exact ⟨congrArg Value.bool (decide_eq_false (by omega)).symm, l04⟩
    · repeat' (first | (simp (disch := omega) only [push_cast, seval, b0, b2, b3, addr_add_eq, Nat.zero_add]) | refine iX ?_ ?_ <;> intros | refine aI (by omega) ?_ | refine dq ?_)
      first | exact ⟨congrArg Value.bool ((decide_eq_false (by omega)).trans (decide_eq_false (by omega)).symm), l04⟩ | exact ⟨congrArg Value.bool (decide_eq_false (by omega)).symm, l04⟩
  · repeat' (first | (simp (disch := omega) only [push_cast, seval, b0, b2, b3, addr_add_eq, Nat.zero_add]) | refine iX ?_ ?_ <;> intros | refine aI (by omega) ?_ | refine dq ?_)
    first | exact ⟨congrArg Value.bool ((decide_eq_false (by omega)).trans (decide_eq_false (by omega)).symm), l04⟩ | exact ⟨congrArg Value.bool (decide_eq_false (by omega)).symm, l04⟩
def F13 (d m : List ByteArray) (l : List El) : Prop := F10 d ∧ F10 m ∧ l.length ≤ 120 ∧ ScOk d m ∧ ∀ e ∈ l, RtOk d.length m.length e
instance (d m : List ByteArray) (l : List El) : Decidable (F13 d m l) := inferInstanceAs (Decidable (F10 d ∧ F10 m ∧ l.length ≤ 120 ∧ ScOk d m ∧ ∀ e ∈ l, RtOk d.length m.length e))
theorem fits13_c (dv mv v : Value) (d m : List ByteArray) (l : List El) (w : World) (h : ScIs w dv mv d m) (hl : RecS elC 4 w v l) (hes : ∀ e ∈ l, EIs w e ∧ StZ e.d) : FnC Tryz.prog 23 #[scV dv mv, v] w fun r w' => r = .bool (decide (F13 d m l)) ∧ Later w w' := by
  unfold scV
  obtain ⟨ol, cl, rfl, gl1, gl2⟩ := hl.slice
  refine enter23 _ _ ?_
  unfold B23
  obtain ⟨l1, s1, F⟩ := box2 w dv mv 24
  have eca : (Value.agg #[dv, mv]).cells = #[dv, mv] := rfl
  have no : (¬ F13 d m l) → decide (F13 d m l) = false := fun h => decide_eq_false h
  repeat' (first | (simp (disch := omega) only [push_cast, seval, eca, s1]) | refine iX ?_ ?_ <;> intros | refine aI (by omega) ?_ | fail)
  generalize w.alloc (.cells #[dv, mv] 24) = w1 at *
  obtain ⟨a0, a1, a2⟩ := F w1 (Later.refl _)
  have h1 := h.later l1
  repeat' (first | (simp (disch := omega) only [push_cast, seval, a0, addr_add_eq, Nat.zero_add]) | refine iX ?_ ?_ <;> intros | refine aI (by omega) ?_ | refine dq ?_)
  refine (fits10_c dv d w1 h1.dS h.dZ).mono ?_
  rintro _ w0 ⟨rfl, h0⟩
  obtain rfl := h0.symm
  repeat' (first | (simp (disch := omega) only [push_cast, seval, a1, addr_add_eq, Nat.zero_add]) | refine iX ?_ ?_ <;> intros | refine aI (by omega) ?_ | refine dq ?_)
  refine (fits10_c mv m w1 h1.mS h.mZ).mono ?_
  rintro _ w0 ⟨rfl, h0⟩
  obtain rfl := h0.symm
  by_cases hd : F10 d
  case neg =>
    have hno := no fun h => hd h.1
    rw [decide_eq_false hd]
    repeat' (first | (simp (disch := omega) only [push_cast, seval]) | refine iX ?_ ?_ <;> intros | refine aI (by omega) ?_ | refine dq ?_)
    first | exact ⟨by rw [hno], l1⟩ | exact l1
  by_cases hm : F10 m
  case neg =>
    have hno := no fun h => hm h.2.1
    rw [decide_eq_true hd, decide_eq_false hm]
    repeat' (first | (simp (disch := omega) only [push_cast, seval]) | refine iX ?_ ?_ <;> intros | refine aI (by omega) ?_ | refine dq ?_)
    first | exact ⟨by rw [hno], l1⟩ | exact l1
  by_cases hn : l.length ≤ 120
  case neg =>
    have hno := no fun h => hn h.2.2.1
    rw [decide_eq_true hd, decide_eq_true hm]
    repeat' (first | (simp (disch := omega) only [push_cast, seval]) | refine iX ?_ ?_ <;> intros | refine aI (by omega) ?_ | refine dq ?_)
    first | exact ⟨by rw [hno], l1⟩ | exact l1
  rw [decide_eq_true hd, decide_eq_true hm]
  repeat' (first | (simp (disch := omega) only [push_cast, seval, a2]) | refine iX ?_ ?_ <;> intros | refine aI (by omega) ?_ | refine dq ?_)
  refine (dschema_c dv mv d m w1 h1 (by have := hd.1; omega) (by have := hm.1; omega)).mono ?_
  rintro _ w2 ⟨rfl, l2⟩
  by_cases hs : ScOk d m
  case neg =>
    have hno := no fun h => hs h.2.2.2.1
    rw [decide_eq_false hs]
    repeat' (first | (simp (disch := omega) only [push_cast, seval]) | refine iX ?_ ?_ <;> intros | refine aI (by omega) ?_ | refine dq ?_)
    first | exact ⟨by rw [hno], (l1.trans l2)⟩ | exact (l1.trans l2)
  rw [decide_eq_true hs]
  repeat' (first | (simp (disch := omega) only [push_cast, seval]) | refine iX ?_ ?_ <;> intros | refine aI (by omega) ?_ | refine dq ?_)
  refine vc_loop W23_0 (fun i : Nat => [(4, .bool false), (7, .int .i64 (i : Int))])
    (fun i w' => i ≤ l.length ∧ Later w2 w' ∧ (∀ j (h : j < l.length), j < i → RtOk d.length m.length l[j])) (fun i => l.length - i) 0 (by decide) ?_ ?_ ?_
  · simp (disch := omega) only [push_cast, seval]
  · exact ⟨by omega, Later.refl _, fun j _ hj => absurd hj (Nat.not_lt_zero _)⟩
  rintro i uu w3 ⟨hi, l3, hA⟩
  have l13 := l2.trans l3
  have l03 := l1.trans l13
  obtain ⟨_, _, a2⟩ := F w3 l13
  by_cases hlt : i < l.length
  · obtain ⟨ad, rfl, hc⟩ := RecS.at elC_len (hl.later l03) hlt
    have hy := hes _ (List.getElem_mem hlt)
    repeat' (first | (simp (disch := omega) only [push_cast, seval, a2, hc]) | refine iX ?_ ?_ <;> intros | refine aI (by omega) ?_ | refine dq ?_)
    refine QFn.of hb55 (v := .bool (decide (RtOk d.length m.length l[i]))) (fun w' hl => dright_c dv mv d m l[i] w' (h.later (l03.trans hl)) (hy.1.later (l03.trans hl)) hy.2) ?_
    by_cases hv : RtOk d.length m.length l[i]
    · rw [decide_eq_true hv]
      repeat' (first | (simp (disch := omega) only [push_cast, seval]) | refine iX ?_ ?_ <;> intros | refine aI (by omega) ?_ | refine dq ?_)
      intro w4 l4
      repeat' (first | (simp (disch := omega) only [push_cast, seval]) | refine iX ?_ ?_ <;> intros | refine aI (by omega) ?_ | refine dq ?_)
      refine ⟨rfl, i + 1, by simp (disch := omega) only [push_cast, seval], ⟨by omega, l3.trans l4, fun j hj hji => ?_⟩, by dsimp only; omega⟩
      by_cases h : j < i
      · exact hA j hj h
      · have : j = i := by omega
        subst this
        exact hv
    · have hno := no fun h => hv (h.2.2.2.2 _ (List.getElem_mem _))
      rw [decide_eq_false hv]
      repeat' (first | (simp (disch := omega) only [push_cast, seval]) | refine iX ?_ ?_ <;> intros | refine aI (by omega) ?_ | refine dq ?_)
      intro w4 l4
      repeat' (first | (simp (disch := omega) only [push_cast, seval]) | refine iX ?_ ?_ <;> intros | refine aI (by omega) ?_ | refine dq ?_)
      first | exact ⟨by rw [hno], (l03.trans l4)⟩ | exact (l03.trans l4)
  · have hyes : decide (F13 d m l) = true := decide_eq_true ⟨hd, hm, hn, hs, fun e he => by
      obtain ⟨j, hj, rfl⟩ := List.getElem_of_mem he
      exact hA j hj (by omega)⟩
    repeat' (first | (simp (disch := omega) only [push_cast, seval]) | refine iX ?_ ?_ <;> intros | refine aI (by omega) ?_ | refine dq ?_)
    first | exact ⟨by rw [hyes], l03⟩ | exact l03
end Go.Proofs.YtnofalhkapmcnaaGreat
end
section
set_option linter.unusedSimpArgs false
namespace Go.Proofs.YtnofalhkapmcnaaGreat
open Go.Vc Go.Key Go.Cub Go.Fold Go.Stab
set_option maxRecDepth 100000
def keepR (d : List ByteArray) (q : QD) (r : R) : Bool := decide (q.fr ≤ r.1) && decide (r.1 < q.to) && q.wh.takes d r.2.1
def rowG (d : List ByteArray) (q : QD) (r : R) : R := (bktN q r.1, vals d q.bl r.2.1, r.2.2.1, r.2.2.2)
def grpL (d : List ByteArray) (q : QD) (l : List R) : List R := (l.filter (keepR d q)).map (rowG d q)
theorem grpL_app (d : List ByteArray) (q : QD) (a b : List R) : grpL d q (a ++ b) = grpL d q a ++ grpL d q b := by unfold grpL; rw [List.filter_append, List.map_append]
theorem grpL_len (d : List ByteArray) (q : QD) (a : List R) : (grpL d q a).length ≤ a.length := by unfold grpL; rw [List.length_map]; exact List.length_filter_le _ _
theorem grpL_skip (d : List ByteArray) (q : QD) {r : R} (h : keepR d q r = false) : grpL d q [r] = [] := by
  unfold grpL; rw [List.filter_cons_of_neg (by rw [h]; simp)]; rfl
theorem grpL_keep (d : List ByteArray) (q : QD) {r : R} (h : keepR d q r = true) : grpL d q [r] = [rowG d q r] := by
  unfold grpL; rw [List.filter_cons_of_pos h]; rfl
theorem qd_wh {w : World} {k : Nat} {q : QD} (B : Blk w k (qdC q).toArray 32) : cellsAt w ⟨k, 5, none⟩ 4 = some (ftC q.wh) := by
  obtain ⟨_, _, _, _, _, b5, b6, b7, b8, _⟩ := qdAt B
  refine cellsAt_of 4 _ _ rfl fun i x hx => ?_
  rw [addr_add_eq]
  match i, hx with
  | 0, hx => cases hx; exact b5
  | 1, hx => cases hx; exact b6
  | 2, hx => cases hx; exact b7
  | 3, hx => cases hx; exact b8
  | n + 4, hx => exact absurd hx (by simp [ftC])
set_option maxHeartbeats 4000000 in
theorem gfold_c (A : Nat) (dv mv v : Value) (d m : List ByteArray) (q : QD) (l : List El) (w : World) (h : ScIs w dv mv d m) (hq : q.Ok w) (hl : RecS elC 4 w v l) (hes : ∀ e ∈ l, EIs w e ∧ Cr d.length A e) (hbd : ∀ n ∈ q.bl, n ∈ d) (hdl : q.bl.length ≤ 1000) (h63 : l.length ≤ 100000) :
    FnC Tryz.prog 9 #[scV dv mv, .agg (qdC q).toArray, v] w fun r w' => ∃ vv e, r = .tuple #[vv, .int .i64 e] ∧ FoldR q.bl.length A w' w.heap.size vv e (grpL d q (l.map El.abs)) ∧ Later w w' := by
  have esc : scV dv mv = .agg #[dv, mv] := rfl
  rw [esc]
  obtain ⟨lo, lc, rfl, gl1, gl2⟩ := hl.slice
  obtain ⟨ou, cu, hbv, hu, gu1, gu2, gu3⟩ := StS.opn hq.bv
  refine enter9 _ _ _ ?_
  unfold B9
  have eca : (Value.agg (qdC q).toArray).cells = (qdC q).toArray := rfl
  have ecb : (Value.agg #[dv, mv]).cells = #[dv, mv] := rfl
  obtain ⟨l1, s1, F⟩ := box2 w dv mv 24
  have B2 := Blk.new (w.alloc (.cells #[dv, mv] 24)) (qdC q).toArray 32
  have l2 := later_alloc (w.alloc (.cells #[dv, mv] 24)) (.cells (qdC q).toArray 32)
  rw [s1] at B2
  repeat' (first | (simp (disch := omega) only [push_cast, seval, eca, ecb, s1]) | refine iX ?_ ?_ <;> intros | refine aI (by omega) ?_ | fail)
  have l01 := l1.trans l2
  have FS : ∀ w', Later ((w.alloc (.cells #[dv, mv] 24)).alloc (.cells (qdC q).toArray 32)) w' → cellsAt w' ⟨w.heap.size, 0, none⟩ 2 = some [dv, mv] := fun w' hl => (F w' (l2.trans hl)).2.2
  clear F l1 l2 s1
  generalize (w.alloc (.cells #[dv, mv] 24)).alloc (.cells (qdC q).toArray 32) = w1 at *
  have hkf := l01.size
  generalize hkq : w.heap.size = kf at *
  have h1 := h.later l01
  have q1 := hq.later l01
  have QB := fun w' (hl : Later w1 w') => qdLater B2 hl
  obtain ⟨_, _, _, _, a4, _⟩ := qdAt B2
  rw [hbv] at a4
  have hin : ∀ n ∈ q.bl, ∃ k, fi d n = some k ∧ k < d.length := fun n hn => by
    cases hf : fi d n with
    | none => exact absurd rfl (fi_none.1 hf n (hbd n hn))
    | some k => exact ⟨k, rfl, (fi_some hf).1⟩
  repeat' (first | (simp (disch := omega) only [push_cast, seval, a4, addr_add_eq, Nat.zero_add]) | refine iX ?_ ?_ <;> intros | refine aI (by omega) ?_ | refine dq ?_)
  refine vc_loop W9_0 (fun p : Nat × Value => [(8, p.2), (22, .int .i64 (p.1 : Int))])
    (fun p w' => p.1 ≤ q.bl.length ∧ Later w1 w' ∧ OwnI w' w1.heap.size 3 p.2 (plc d (q.bl.take p.1))) (fun p => q.bl.length - p.1) (0, .slice none 0 0) (by decide) ?_ ?_ ?_
  · simp (disch := omega) only [push_cast, seval]
  · exact ⟨by omega, Later.refl _, by simpa [plc] using OwnI.nil w1 w1.heap.size 3⟩
  rintro ⟨i, pv⟩ uu w2 ⟨hi, l2, hP⟩
  dsimp only at hi hP
  by_cases hlt : i < q.bl.length
  · cases ou with
    | none => have := gu3 rfl; rw [this] at hlt; simp at hlt
    | some au =>
    have hc := StS.atS (Sl.later hu (l01.trans l2)) hlt
    have hsn := plc_snoc (d := d) hlt
    have hpl : (plc d (q.bl.take i)).length = i := by simp [plc]; omega
    generalize q.bl[i] = n at *
    have a2 := FS w2 l2
    repeat' (first | (simp (disch := omega) only [push_cast, seval, hc, a2]) | refine iX ?_ ?_ <;> intros | refine aI (by omega) ?_ | refine dq ?_)
    refine (dim_c dv mv d m n w2 (h1.later l2)).mono ?_
    rintro _ w3 ⟨rfl, l3⟩
    obtain ⟨op, cp, rfl⟩ := hP.slice
    unfold fiT
    repeat' (first | (simp (disch := omega) only [push_cast, seval]) | refine iX ?_ ?_ <;> intros | refine aI (by omega) ?_ | refine dq ?_)
    have la := later_alloc w3 (.cells #[.int .i64 (((fi d n).getD 0 : Nat) : Int)] 3)
    have hPa : OwnI _ w1.heap.size 3 (.slice op (plc d (q.bl.take i)).length cp) (plc d (q.bl.take i)) := own_later hP (l3.trans la)
    refine vAppend_i Tryz.underlying59 ti3 rfl hPa (lit_i w3 _ _) (by omega) (by omega) ((l2.trans l3).trans la).size ?_
    intro v' w5 ho5 hg5 _ hlat
    have l5 := hlat w1 ((l2.trans l3).trans la) (Nat.le_refl _)
    repeat' (first | (simp (disch := omega) only [push_cast, seval]) | refine iX ?_ ?_ <;> intros | refine aI (by omega) ?_ | refine dq ?_)
    refine ⟨rfl, (i + 1, v'), by simp (disch := omega) only [push_cast, seval], ⟨by dsimp only; omega, l5, ?_⟩, by dsimp only; omega⟩
    dsimp only
    rw [hsn]
    exact ho5
  have hie : i = q.bl.length := by omega
  subst hie
  rw [List.take_length] at hP
  have l02 := l01.trans l2
  obtain ⟨op, cp, hpv⟩ := hP.slice
  subst hpv
  have hpS : Sl w2 (.slice op (plc d q.bl).length cp) ((plc d q.bl).map i64v) := Sl.of_own hP
  have hpln : (plc d q.bl).length = q.bl.length := by simp [plc]
  have l02s := l02.size
  rw [hkq] at l02s
  repeat' (first | (simp (disch := omega) only [push_cast, seval]) | refine iX ?_ ?_ <;> intros | refine aI (by omega) ?_ | refine dq ?_)
  refine vc_loop W9_1 (fun p : Nat × Value => [(13, p.2), (39, .int .i64 (p.1 : Int))])
    (fun p w' => p.1 ≤ l.length ∧ Later w2 w' ∧ ∃ os, OwnE w' w2.heap.size p.2 os ∧ os.map El.abs = grpL d q ((l.take p.1).map El.abs) ∧ ∀ z ∈ os, ∃ x ∈ l, Pz w' x (rowG d q x.abs) z) (fun p => l.length - p.1) (0, .slice none 0 0) (by decide) ?_ ?_ ?_
  · simp (disch := omega) only [push_cast, seval]
  · exact ⟨by omega, Later.refl _, [], OwnR.nil _ _ _, by simp [grpL], by simp⟩
  rintro ⟨i, ov⟩ uu2 w4 ⟨hi, l4, os, hO, hos, hZ⟩
  dsimp only at hi hO hos
  have hosl : os.length ≤ l.length := by
    have h1 := congrArg List.length hos
    have h2 := grpL_len d q ((l.take i).map El.abs)
    rw [List.length_map] at h1
    rw [List.length_map, List.length_take] at h2
    omega
  have l04 := l02.trans l4
  by_cases hlt : i < l.length
  · obtain ⟨ad, rfl, f1⟩ := RecS.at elC_len (hl.later l04) hlt
    have hE := (hes l[i] (List.getElem_mem _)).1
    have hC := (hes l[i] (List.getElem_mem _)).2
    have hxm : l[i] ∈ l := List.getElem_mem _
    have htk : grpL d q ((l.take (i + 1)).map El.abs) = grpL d q ((l.take i).map El.abs) ++ grpL d q [l[i].abs] := by rw [take_snoc l i hlt, List.map_append, grpL_app]; rfl
    generalize l[i] = x at *
    obtain ⟨oo, oc, rfl, _⟩ := RecS.slice (OwnR.s hO)
    obtain ⟨ox, cx, hxdv, hxs, ge1, ge2, ge3⟩ := StS.opn hE.1
    obtain ⟨oa, ca, hxav, _⟩ := RecS.slice hE.2
    unfold elC at f1
    repeat' (first | (simp (disch := omega) only [push_cast, seval, f1]) | refine iX ?_ ?_ <;> intros | refine aI (by omega) ?_ | refine dq ?_)
    refine vStore_new rfl rfl (by intro u hu; exact elC_one (hE.later l04) u (by simpa [elC] using hu)) ?_
    have l5 := later_alloc w4 (.cells #[.int .i64 x.t, x.dv, .int .i64 x.n, x.av] 55)
    obtain ⟨b0, b1, b2, b3, _⟩ := box4 w4 (.int .i64 x.t) x.dv (.int .i64 x.n) x.av 55
    generalize w4.alloc (.cells #[.int .i64 x.t, x.dv, .int .i64 x.n, x.av] 55) = w5 at *
    generalize w4.heap.size = k5 at *
    rw [hxdv] at b1
    rw [hxav] at b3
    have l25 := l4.trans l5
    have l15 := l2.trans l25
    have l05 := l01.trans l15
    have hskip : ∀ w6, Later w5 w6 → keepR d q x.abs = false → i + 1 ≤ l.length ∧ Later w2 w6 ∧ ∃ os', OwnE w6 w2.heap.size (.slice oo os.length oc) os' ∧ os'.map El.abs = grpL d q ((l.take (i + 1)).map El.abs) ∧ ∀ z ∈ os', ∃ x ∈ l, Pz w6 x (rowG d q x.abs) z := by
      intro w6 l6 hk
      refine ⟨by omega, l25.trans l6, os, hO.later (l5.trans l6), ?_, fun z hz => ?_⟩
      · rw [htk, grpL_skip d q hk, List.append_nil]; exact hos
      · obtain ⟨y, hy, hp⟩ := hZ z hz
        exact ⟨y, hy, hp.later (l5.trans l6)⟩
    obtain ⟨_, a1, a2, _, _, _⟩ := qdAt (QB w5 l15)
    by_cases c1 : x.t < q.fr
    · have e1 : decide (x.t < q.fr) = true := decide_eq_true c1
      have hk : keepR d q x.abs = false := by
        unfold keepR
        rw [show decide (q.fr ≤ x.abs.1) = false from decide_eq_false (by show ¬ q.fr ≤ x.t; omega)]; rfl
      have hs := hskip w5 (Later.refl _) hk
      repeat' (first | (simp (disch := omega) only [push_cast, seval, b0, a1, e1, addr_add_eq, Nat.zero_add]) | refine iX ?_ ?_ <;> intros | refine aI (by omega) ?_ | refine dq ?_)
      exact ⟨rfl, (i + 1, _), by simp (disch := omega) only [push_cast, seval], hs, by dsimp only; omega⟩
    have e1 : decide (x.t < q.fr) = false := decide_eq_false c1
    by_cases c2 : q.to ≤ x.t
    · have e2 : decide (q.to ≤ x.t) = true := decide_eq_true c2
      have hk : keepR d q x.abs = false := by
        unfold keepR
        rw [show decide (x.abs.1 < q.to) = false from decide_eq_false (by show ¬ x.t < q.to; omega)]; simp
      have hs := hskip w5 (Later.refl _) hk
      repeat' (first | (simp (disch := omega) only [push_cast, seval, b0, a1, a2, e1, e2, addr_add_eq, Nat.zero_add]) | refine iX ?_ ?_ <;> intros | refine aI (by omega) ?_ | refine dq ?_)
      exact ⟨rfl, (i + 1, _), by simp (disch := omega) only [push_cast, seval], hs, by dsimp only; omega⟩
    have e2 : decide (q.to ≤ x.t) = false := decide_eq_false c2
    have fw := qd_wh (QB w5 l15)
    have fs := FS w5 l15
    repeat' (first | (simp (disch := omega) only [push_cast, seval, b0, b1, a1, a2, e1, e2, fw, fs, addr_add_eq, Nat.zero_add]) | refine iX ?_ ?_ <;> intros | refine aI (by omega) ?_ | refine dq ?_)
    refine (takes_c dv mv d m _ x.d q.wh w5 (q1.wh.later l15) (h1.later l15) (Sl.later hxs l05)).mono ?_
    rintro _ w6 ⟨rfl, l6⟩
    cases htk2 : q.wh.takes d x.d with
    | false =>
      have hk : keepR d q x.abs = false := by
        unfold keepR
        rw [show q.wh.takes d x.abs.2.1 = false from htk2]; simp
      have hs := hskip w6 l6 hk
      repeat' (first | (simp (disch := omega) only [push_cast, seval]) | refine iX ?_ ?_ <;> intros | refine aI (by omega) ?_ | refine dq ?_)
      exact ⟨rfl, (i + 1, _), by simp (disch := omega) only [push_cast, seval], hs, by dsimp only; omega⟩
    | true =>
    have hk : keepR d q x.abs = true := by
      unfold keepR
      rw [show q.wh.takes d x.abs.2.1 = true from htk2, show decide (q.fr ≤ x.abs.1) = true from decide_eq_true (by show q.fr ≤ x.t; omega), show decide (x.abs.1 < q.to) = true from decide_eq_true (by show x.t < q.to; omega)]; rfl
    clear hskip
    have l56 := l5.trans l6
    have l26 := l4.trans l56
    have l16 := l2.trans l26
    have l06 := l01.trans l16
    have b06 := l6.cell b0
    have b16 := l6.cell b1
    have b26 := l6.cell b2
    have b36 := l6.cell b3
    have fq : cellsAt w6 ⟨kf + 1, 0, none⟩ 12 = some (qdC q) := Blk.cellsAt (l := qdC q) (QB w6 l16)
    have q6 := q1.later l16
    have hI : I6 x.t := ⟨by have := hC.2.1; omega, by have := hC.2.2; omega⟩
    clear b0 b1 b2 b3 f1 fw fs a1 a2
    repeat' (first | (simp (disch := omega) only [push_cast, seval]) | refine iX ?_ ?_ <;> intros | refine aI (by omega) ?_ | fail)
    refine drawn_k 10 ?_
    repeat' (first | (simp (disch := omega) only [push_cast, seval, fq, b06, b26, b36, addr_add_eq, Nat.zero_add]) | refine iX ?_ ?_ <;> intros | refine aI (by omega) ?_ | fail)
    refine NFn.fix hb21 (v := .int .i64 (bktN q x.t)) (fun w' hl => tbucket_c q x.t w' (q6.later hl) hI) ?_
    repeat' (first | (simp (disch := omega) only [push_cast, seval, fq, b06, b26, b36, addr_add_eq, Nat.zero_add]) | refine iX ?_ ?_ <;> intros | refine aI (by omega) ?_ | fail)
    refine nP_build (.agg #[.int .i64 (bktN q x.t), .slice none 0 0, .int .i64 x.n, .slice oa x.a.length ca]) (fun w' => ?_) ?_
    · repeat' (first | (simp (disch := omega) only [push_cast, seval]) | refine iX ?_ ?_ <;> intros | refine aI (by omega) ?_ | fail)
    repeat' (first | (simp (disch := omega) only [push_cast, seval]) | refine iX ?_ ?_ <;> intros | refine aI (by omega) ?_ | fail)
    refine nA_of _ (PtV w6 55 #[.int .i64 0, .slice none 0 0, .int .i64 0, .slice none 0 0]) (stb_pt _ _ _ _) (fun w' hl => ?_) ?_
    · repeat' (first | (simp (disch := omega) only [push_cast, seval]) | refine iX ?_ ?_ <;> intros | refine aI (by omega) ?_ | fail)
      exact ⟨later_alloc _ _, w'.heap.size, rfl, hl.size, Blk.new _ _ _⟩
    repeat' (first | (simp (disch := omega) only [push_cast, seval]) | refine iX ?_ ?_ <;> intros | refine aI (by omega) ?_ | fail)
    rintro w7 l7 _ ⟨b, rfl, hb6, Bb⟩
    have hone : ∀ u ∈ [Value.int .i64 (bktN q x.t), .slice none 0 0, .int .i64 x.n, .slice oa x.a.length ca], u.oneCell' = true := by
      intro u hu
      simp at hu
      rcases hu with rfl | rfl | rfl | rfl <;> rfl
    refine vStore_blk (l := [.int .i64 0, .slice none 0 0, .int .i64 0, .slice none 0 0]) (xs := [.int .i64 (bktN q x.t), .slice none 0 0, .int .i64 x.n, .slice oa x.a.length ca]) Bb rfl rfl hone ?_
    intro w8 B8 c8
    have P8 : PS w6 w8 b w6.heap.size (bktN q x.t) x.n (.slice oa x.a.length ca) [] := ⟨Chg.later l7 c8 (by intro j hj; rw [List.mem_singleton.1 hj]; omega), _, B8, own_nil _ _ _ _⟩
    clear B8 c8 Bb
    repeat' (first | (simp (disch := omega) only [push_cast, seval]) | refine iX ?_ ?_ <;> intros | refine aI (by omega) ?_ | refine dq ?_)
    refine vc_loop W9_2 (fun k : Nat => [(75, .int .i64 (k : Int))])
      (fun k w' => k ≤ q.bl.length ∧ PS w6 w' b w6.heap.size (bktN q x.t) x.n (.slice oa x.a.length ca) (vals d (q.bl.take k) x.d)) (fun k => q.bl.length - k) 0 (by decide) ?_ ?_ ?_
    · simp (disch := omega) only [push_cast, seval]
    · exact ⟨by omega, by simpa [vals] using P8⟩
    clear P8
    rintro k uu3 w9 ⟨hk9, P9⟩
    have l69 := P9.later
    have l49 := l56.trans l69
    have b19 := l69.cell b16
    by_cases hkl : k < q.bl.length
    · obtain ⟨j, hj, hjd⟩ := hin q.bl[k] (List.getElem_mem _)
      have hxl : x.d.length = d.length := hC.1.rr.2.1
      have hvt := vals_take (x := x.d) hkl hj (by omega)
      obtain ⟨ap, rfl⟩ : ∃ ap, op = some ap := by
        cases op with
        | some ap => exact ⟨ap, rfl⟩
        | none => have := (Sl.len hpS).2.2.2 rfl; simp [plc] at this; rw [this.1] at hkl; simp at hkl
      have hpk : (plc d q.bl)[k]'(by rw [hpln]; exact hkl) = (j : Int) := by simp [plc, hj]
      have fp := (Sl.later hpS (l4.trans l49)).atI (i := k) (by rw [hpln]; exact hkl)
      rw [hpk] at fp
      obtain ⟨_, dvc, Bc, hOc⟩ := P9
      obtain ⟨oc2, cc2, hdvc, _⟩ := StS.opn (Sl.of_own hOc)
      subst hdvc
      have f1 : w9.cell? ⟨b, 1, none⟩ = some (.slice oc2 (vals d (q.bl.take k) x.d).length cc2) := Bc.cell 1
      obtain ⟨ae, rfl⟩ : ∃ ae, ox = some ae := by
        cases ox with
        | some ae => exact ⟨ae, rfl⟩
        | none => have := ge3 rfl; rw [this] at hxl; simp at hxl; omega
      have hjx : j < x.d.length := by omega
      have fk := StS.atS (Sl.later hxs (l04.trans l49)) hjx
      have hvl : (vals d (q.bl.take k) x.d).length = k := by simp [vals]; omega
      generalize vals d (q.bl.take k) x.d = ds at *
      generalize x.d[j] = s at *
      repeat' (first | (simp (disch := omega) only [push_cast, seval, fp, f1, b19]) | refine iX ?_ ?_ <;> intros | refine aI (by omega) ?_ | fail)
      refine drawn_k 8 ?_
      repeat' (first | (simp (disch := omega) only [push_cast, seval, f1, b19, fk, addr_add_eq, Nat.zero_add]) | refine iX ?_ ?_ <;> intros | refine aI (by omega) ?_ | fail)
      refine nB_of _ (RowV w9 9 #[.string s] 1) (stb_row _ _ _ _) (fun w' hl => ?_) ?_
      · repeat' (first | (simp (disch := omega) only [push_cast, seval]) | refine iX ?_ ?_ <;> intros | refine aI (by omega) ?_ | fail)
        exact RowV.new hl _ _ _
      repeat' (first | (simp (disch := omega) only [push_cast, seval]) | refine iX ?_ ?_ <;> intros | refine aI (by omega) ?_ | fail)
      rintro wa la _ ⟨kb, rfl, hkb, Bk⟩
      have hsl : StS wa (.slice (some ⟨kb, 0, none⟩) 1 1) [s] := Sl.of_blk (xs := [.string s]) Bk rfl (by unfold maxLen; omega)
      have Bca := Bc.chg (Chg.of_later (ks := []) la) (by simp)
      have hOa := own_later hOc la
      have l6a := l69.trans la
      refine vAppend_ss hOa hsl (by simp only [List.length_cons, List.length_nil]; omega) l6a.size ?_
      intro v' wb hob hgb _
      obtain ⟨q1', q2', q3'⟩ := PS.snoc l6a (by have := l7.size; omega) (Nat.le_refl _) Bca hOa hob hgb
      obtain ⟨o8, c8, hv8, _⟩ := StS.opn (Sl.of_own hob)
      subst hv8
      repeat' (first | (simp (disch := omega) only [push_cast, seval, q1', q2', addr_add_eq, Nat.zero_add]) | refine iX ?_ ?_ <;> intros | refine aI (by omega) ?_ | refine dq ?_)
      refine ⟨rfl, k + 1, by simp (disch := omega) only [push_cast, seval], ⟨by omega, ?_⟩, by dsimp only; omega⟩
      rw [hvt]
      exact q3'
    · have e0 : k = q.bl.length := by omega
      subst e0
      rw [List.take_length] at P9
      have ha9 : AgS w9 (.slice oa x.a.length ca) x.a := by
        have := (hE.later (l04.trans l49)).2
        rwa [hxav] at this
      obtain ⟨z, hz, hzE, hzf, hzo, hzav, hza⟩ := P9.el ha9
      have hPz : Pz w9 x (rowG d q x.abs) z := ⟨hz, by rw [hzav, hxav], hza, _, hzo⟩
      unfold elC at hzf
      repeat' (first | (simp (disch := omega) only [push_cast, seval, hzf]) | refine iX ?_ ?_ <;> intros | refine aI (by omega) ?_ | refine dq ?_)
      have la := later_alloc w9 (.cells #[.int .i64 z.t, z.dv, .int .i64 z.n, z.av] 55)
      have Bl := Blk.new w9 #[.int .i64 z.t, z.dv, .int .i64 z.n, z.av] 55
      have l4a := l49.trans la
      have hO9 := hO.later l4a
      refine vAppend_e (r := [z]) hO9 (RecS.lit1 (elC_len z) Bl) (by intro q hq; rw [List.mem_singleton.1 hq]; exact hzE.later la) (by simp only [List.length_cons, List.length_nil]; omega) (l4.trans l4a).size ?_
      intro v' wb hob hgb _
      have lb := (l4.trans l4a).appended hO9 (Nat.le_refl _) hgb
      repeat' (first | (simp (disch := omega) only [push_cast, seval]) | refine iX ?_ ?_ <;> intros | refine aI (by omega) ?_ | refine dq ?_)
      refine ⟨rfl, (i + 1, v'), by simp (disch := omega) only [push_cast, seval], ⟨by dsimp only; omega, lb, os ++ [z], hob, by dsimp only; rw [htk, grpL_keep d q hk, List.map_append, hos, List.map_singleton, hz]; rfl, fun q hq => ?_⟩, by dsimp only; omega⟩
      rcases List.mem_append.1 hq with hq | hq
      · obtain ⟨y, hy, hP'⟩ := hZ q hq
        exact ⟨y, hy, (hP'.later l4a).grown hO9 hgb⟩
      · rw [List.mem_singleton.1 hq]
        exact ⟨x, hxm, (hPz.later la).grown hO9 hgb⟩
  · have e0 : i = l.length := by omega
    subst e0
    rw [List.take_length] at hos
    have hgd : ∀ z ∈ os, EIs w4 z ∧ Gd q.bl.length A z.abs := fun z hz => by
      obtain ⟨y, hy, hP'⟩ := hZ z hz
      refine ⟨hP'.is ((hes y hy).1.later l04), ?_⟩
      have hG := (hes y hy).2.1
      rw [hP'.1]
      exact ⟨hG.1, hG.2.1, hG.2.2.1, by show (vals d q.bl y.abs.2.1).length = _; simp [vals], hG.2.2.2.2.1, hdl, hG.2.2.2.2.2.2⟩
    obtain ⟨oo, oc, rfl, _⟩ := RecS.slice (OwnR.s hO)
    repeat' (first | (simp (disch := omega) only [push_cast, seval]) | refine iX ?_ ?_ <;> intros | refine aI (by omega) ?_ | refine dq ?_)
    refine (rfold_c q.bl.length A _ os w4 (OwnR.s hO) hgd (by omega)).mono ?_
    rintro _ w5 ⟨vv, e, rfl, hf, l5⟩
    rw [hos] at hf
    have l04s := l04.size
    rw [hkq] at l04s
    have hf' : FoldR q.bl.length A w5 kf vv e (grpL d q (l.map El.abs)) := by
      rcases hf with hf | ⟨h1, es, h2, h3, h4⟩
      · exact .inl hf
      · exact .inr ⟨h1, es, OwnR.base h2 l04s, h3, fun z hz => ⟨(h4 z hz).1.base l04s, (h4 z hz).2⟩⟩
    repeat' (first | (simp (disch := omega) only [push_cast, seval]) | refine iX ?_ ?_ <;> intros | refine aI (by omega) ?_ | refine dq ?_)
    exact ⟨_, _, rfl, hf', l04.trans l5⟩
end Go.Proofs.YtnofalhkapmcnaaGreat
end
section
namespace Go.Proofs.YtnofalhkapmcnaaGreat
open Go.Vc
set_option maxRecDepth 100000
variable (Q : Post) (ds : List Deferred) (σ : Env) (w : World)
/-! 58 slices.SortStableFunc[[]columbary/api.Group,columbary/api.Group] (params #[36, 89], results #[], 9 slots) -/
abbrev r58_0 : List VOp :=
  [mv 4 0 36,
   mv 5 0 36,
   zBM 6 5 36,
   mv 7 1 89,
   zBT 8 108 4 6 7 36 3 89 0]
def B58 : VC :=
  (.region r58_0)
theorem code58 : ∃ c, Tryz.f58.body = some c ∧ abs Tryz.f58.ntmps c = B58 := ⟨_, rfl, by kernel_rfl⟩
theorem hb58 : HasBody Tryz.prog 58 := hasBody_of Tryz.func58 (by kernel_rfl)
theorem enter58 (x0 x1 : Value) : Ent 58 B58 #[] [x0, x1] := ent code58 hb58 Tryz.func58 rfl rfl
/-! 108 slices.stableCmpFunc[columbary/api.Group] (params #[36, 3, 89], results #[], 63 slots) -/
@[push_cast] def W108_0 : List Nat := [7, 8, 11, 12, 13, 14, 15, 16, 17, 18, 19, 20, 21, 22]
@[push_cast] def W108_1 : List Nat := [6, 7, 8, 9, 28, 29, 30, 31, 32, 33, 34, 35, 36, 37, 38, 39, 40, 41, 42, 43, 44, 45, 46, 47, 48, 49, 50, 51, 52, 53, 54, 55, 56, 57, 58, 59, 60, 61, 62]
@[push_cast] def W108_2 : List Nat := [7, 8, 33, 34, 35, 36, 37, 38, 39, 40, 41, 42, 43, 44, 45, 46, 47, 48]
abbrev r108_0 : List VOp :=
  [zE 6 20 3]
abbrev r108_1 : List VOp :=
  [mv 10 6 3,
   zE 7 0 3,
   asg 8 10 3]
abbrev r108_2 : List VOp :=
  [mv 11 8 3,
   mv 12 1 3,
   zU 13 11 12]
abbrev r108_3 : List VOp :=
  [mv 14 0 36,
   mv 15 7 3,
   mv 16 8 3,
   mv 17 2 89,
   zBS 18 134 14 15 16 17 36 89]
abbrev r108_4 : List VOp :=
  [mv 19 8 3,
   asg 7 19 3]
abbrev r108_5 : List VOp :=
  [mv 20 8 3,
   mv 21 6 3,
   zH 22 20 21,
   asg 8 22 3]
abbrev r108_6 : List VOp :=
  [mv 23 0 36,
   mv 24 7 3,
   mv 25 1 3,
   mv 26 2 89,
   zBS 27 134 23 24 25 26 36 89]
abbrev r108_7 : List VOp :=
  [mv 28 6 3,
   mv 29 1 3,
   zX 30 3 28 29 4]
abbrev r108_8 : List VOp :=
  [mv 31 6 3,
   zZ 32 31,
   zE 7 0 3,
   asg 8 32 3]
abbrev r108_9 : List VOp :=
  [mv 33 8 3,
   mv 34 1 3,
   zU 35 33 34]
abbrev r108_10 : List VOp :=
  [mv 36 0 36,
   mv 37 7 3,
   mv 38 7 3,
   mv 39 6 3,
   zH 40 38 39,
   mv 41 8 3,
   mv 42 2 89,
   zBR 43 135 36 37 40 41 42 36 89]
abbrev r108_11 : List VOp :=
  [mv 44 8 3,
   asg 7 44 3]
abbrev r108_12 : List VOp :=
  [mv 45 8 3,
   mv 46 6 3,
   zZ 47 46,
   zH 48 45 47,
   asg 8 48 3]
abbrev r108_13 : List VOp :=
  [mv 49 7 3,
   mv 50 6 3,
   zH 51 49 50,
   asg 9 51 3]
abbrev r108_14 : List VOp :=
  [mv 52 9 3,
   mv 53 1 3,
   zX 54 3 52 53 4]
abbrev r108_15 : List VOp :=
  [mv 55 0 36,
   mv 56 7 3,
   mv 57 9 3,
   mv 58 1 3,
   mv 59 2 89,
   zBR 60 135 55 56 57 58 59 36 89]
abbrev r108_16 : List VOp :=
  [mv 61 6 3,
   ⟨some 62, .binOp .mul 3 (.tmp 61) (.const (.int .i64 2)) 3, 3, none⟩,
   asg 6 62 3]
def B108 : VC :=
  (.seq (.region r108_0) (.seq (.region r108_1) (.seq (.block 0 (.loop (.seq (.seq (.region r108_2) (.cond (.tmp 13) .skip (.exit 0))) (.block 1 (.seq (.region r108_3) (.seq (.region r108_4) (.region r108_5))))))) (.seq (.region r108_6) (.block 2 (.loop (.seq (.seq (.region r108_7) (.cond (.tmp 30) .skip (.exit 2))) (.block 3 (.seq (.region r108_8) (.seq (.block 4 (.loop (.seq (.seq (.region r108_9) (.cond (.tmp 35) .skip (.exit 4))) (.block 5 (.seq (.region r108_10) (.seq (.region r108_11) (.region r108_12))))))) (.seq (.seq (.region r108_13) (.seq (.region r108_14) (.cond (.tmp 54) (.region r108_15) .skip))) (.region r108_16))))))))))))
theorem code108 : ∃ c, Tryz.f108.body = some c ∧ abs Tryz.f108.ntmps c = B108 := ⟨_, rfl, by kernel_rfl⟩
theorem hb108 : HasBody Tryz.prog 108 := hasBody_of Tryz.func108 (by kernel_rfl)
theorem enter108 (x0 x1 x2 : Value) : Ent 108 B108 #[] [x0, x1, x2] := ent code108 hb108 Tryz.func108 rfl rfl
/-! 134 slices.insertionSortCmpFunc[columbary/api.Group] (params #[36, 3, 3, 89], results #[], 53 slots) -/
@[push_cast] def W134_0 : List Nat := [8, 9, 12, 13, 14, 15, 16, 17, 18, 19, 20, 21, 22, 23, 24, 25, 26, 27, 28, 29, 30, 31, 32, 33, 34, 35, 36, 37, 38, 39, 40, 41, 42, 43, 44, 45, 46, 47, 48, 49, 50, 51, 52]
@[push_cast] def W134_1 : List Nat := [9, 18, 19, 20, 21, 22, 23, 24, 25, 26, 27, 28, 29, 30, 31, 32, 33, 34, 35, 36, 37, 38, 39, 40, 41, 42, 43, 44, 45, 46, 47, 48, 49, 50, 51, 52]
abbrev r134_0 : List VOp :=
  [mv 10 1 3,
   zG 11 10,
   asg 8 11 3]
abbrev r134_1 : List VOp :=
  [mv 12 8 3,
   mv 13 2 3,
   zX 14 3 12 13 4]
abbrev r134_3 : List VOp :=
  [mv 17 8 3,
   asg 9 17 3]
def r134_4 : List (VOp × List Nat) := [(⟨some 18, .move (.tmp 9), 3, none⟩, [9]), (⟨some 19, .move (.tmp 1), 3, none⟩, [1]), (⟨some 20, .binOp .gtr 3 (.tmp 18) (.tmp 19) 3, 4, none⟩, [18, 19]), (⟨some 21, .move (.tmp 20), 4, none⟩, [20]), (⟨some 22, .move (.tmp 3), 89, some (21, true)⟩, [3, 21]), (⟨some 23, .move (.tmp 0), 36, some (21, true)⟩, [0, 21]), (⟨some 24, .move (.tmp 9), 3, some (21, true)⟩, [9, 21]), (⟨some 25, .indexAddr 36 (.tmp 23) (.tmp 24), 0, some (21, true)⟩, [23, 24, 21]), (⟨some 26, .load 61 (.tmp 25), 61, some (21, true)⟩, [25, 21]), (⟨some 27, .move (.tmp 0), 36, some (21, true)⟩, [0, 21]), (⟨some 28, .move (.tmp 9), 3, some (21, true)⟩, [9, 21]), (⟨some 29, .binOp .sub 3 (.tmp 28) (.const (.int .i64 1)) 3, 3, some (21, true)⟩, [28, 21]), (⟨some 30, .indexAddr 36 (.tmp 27) (.tmp 29), 0, some (21, true)⟩, [27, 29, 21]), (⟨some 31, .load 61 (.tmp 30), 61, some (21, true)⟩, [30, 21]), (⟨some 32, .call ⟨.value (.tmp 22), #[.tmp 26, .tmp 31], #[61, 61]⟩, 3, some (21, true)⟩, [22, 26, 31, 21]), (⟨some 33, .binOp .lss 3 (.tmp 32) (.const (.int .i64 0)) 3, 4, some (21, true)⟩, [32, 21]), (⟨some 34, .pick (.tmp 21) (.tmp 33) (.const (.bool false)), 4, none⟩, [21, 33])]
def r134_6 : List (VOp × List Nat) := [(⟨some 37, .move (.tmp 0), 36, none⟩, [0]), (⟨some 38, .move (.tmp 9), 3, none⟩, [9]), (⟨some 39, .move (.tmp 0), 36, none⟩, [0]), (⟨some 40, .move (.tmp 9), 3, none⟩, [9]), (⟨some 41, .binOp .sub 3 (.tmp 40) (.const (.int .i64 1)) 3, 3, none⟩, [40]), (⟨some 42, .move (.tmp 0), 36, none⟩, [0]), (⟨some 43, .move (.tmp 9), 3, none⟩, [9]), (⟨some 44, .binOp .sub 3 (.tmp 43) (.const (.int .i64 1)) 3, 3, none⟩, [43]), (⟨some 45, .indexAddr 36 (.tmp 42) (.tmp 44), 0, none⟩, [42, 44]), (⟨some 46, .load 61 (.tmp 45), 61, none⟩, [45]), (⟨some 47, .move (.tmp 0), 36, none⟩, [0]), (⟨some 48, .move (.tmp 9), 3, none⟩, [9]), (⟨some 49, .indexAddr 36 (.tmp 47) (.tmp 48), 0, none⟩, [47, 48]), (⟨some 50, .load 61 (.tmp 49), 61, none⟩, [49]), (⟨some 51, .indexAddr 36 (.tmp 37) (.tmp 38), 0, none⟩, [37, 38]), (⟨none, .store 61 (.tmp 51) (.tmp 46), 0, none⟩, [51, 46]), (⟨some 52, .indexAddr 36 (.tmp 39) (.tmp 41), 0, none⟩, [39, 41]), (⟨none, .store 61 (.tmp 52) (.tmp 50), 0, none⟩, [52, 50])]
abbrev r134_5 : List VOp :=
  [mv 35 9 3,
   zBD 36 35,
   asg 9 36 3]
abbrev r134_2 : List VOp :=
  [mv 15 8 3,
   zG 16 15,
   asg 8 16 3]
def B134 : VC :=
  (.seq (.region r134_0) (.block 0 (.loop (.seq (.seq (.region r134_1) (.cond (.tmp 14) .skip (.exit 0))) (.seq (.block 1 (.seq (.region r134_3) (.block 2 (.loop (.seq (.seq (.draw (dR r134_4) 4) (.cond (.tmp 34) .skip (.exit 2))) (.seq (.block 3 (.drawS (dR r134_6) 3 [39, 40, 41])) (.region r134_5))))))) (.region r134_2))))))
theorem code134 : ∃ c, Tryz.f134.body = some c ∧ abs Tryz.f134.ntmps c = B134 := ⟨_, rfl, by kernel_rfl⟩
theorem hb134 : HasBody Tryz.prog 134 := hasBody_of Tryz.func134 (by kernel_rfl)
theorem enter134 (x0 x1 x2 x3 : Value) : Ent 134 B134 #[] [x0, x1, x2, x3] := ent code134 hb134 Tryz.func134 rfl rfl
@[push_cast] def vr134_4 := vD r134_4.eq_1 rfl 4
@[push_cast] def vr134_6 := vS r134_6.eq_1 rfl 3 [39, 40, 41]
/-! 135 slices.symMergeCmpFunc[columbary/api.Group] (params #[36, 3, 3, 3, 89], results #[], 220 slots) -/
@[push_cast] def W135_0 : List Nat := [10, 11, 12, 31, 32, 33, 34, 35, 36, 37, 38, 39, 40, 41, 42, 43, 44, 45, 46, 47, 48, 49, 50, 51, 52, 53]
@[push_cast] def W135_1 : List Nat := [13, 55, 56, 57, 58, 59, 60, 61, 62, 63, 64, 65, 66, 67, 68, 69, 70, 71, 72, 73, 74, 75, 76]
@[push_cast] def W135_2 : List Nat := [14, 15, 16, 83, 84, 85, 86, 87, 88, 89, 90, 91, 92, 93, 94, 95, 96, 97, 98, 99, 100, 101, 102, 103, 104, 105, 106]
@[push_cast] def W135_3 : List Nat := [17, 108, 109, 110, 111, 112, 113, 114, 115, 116, 117, 118, 119, 120, 121, 122, 123, 124, 125, 126, 127, 128]
@[push_cast] def W135_4 : List Nat := [20, 21, 23, 149, 150, 151, 152, 153, 154, 155, 156, 157, 158, 159, 160, 161, 162, 163, 164, 165, 166, 167, 168, 169, 170, 171, 172, 173, 174]
abbrev r135_0 : List VOp :=
  [mv 25 2 3,
   mv 26 1 3,
   zBE 27 25 26,
   zI 28 3 27 1]
abbrev r135_1 : List VOp :=
  [mv 29 2 3,
   asg 10 29 3]
abbrev r135_2 : List VOp :=
  [mv 30 3 3,
   asg 11 30 3]
abbrev r135_3 : List VOp :=
  [mv 31 10 3,
   mv 32 11 3,
   zX 33 3 31 32 4]
abbrev r135_4 : List VOp :=
  [mv 34 10 3,
   mv 35 11 3,
   zH 36 34 35,
   zCA 37 3 150 36,
   zBC 38 37,
   zCA 39 150 3 38,
   asg 12 39 3]
def r135_5 : List (VOp × List Nat) := [(⟨some 40, .move (.tmp 4), 89, none⟩, [4]), (⟨some 41, .move (.tmp 0), 36, none⟩, [0]), (⟨some 42, .move (.tmp 12), 3, none⟩, [12]), (⟨some 43, .indexAddr 36 (.tmp 41) (.tmp 42), 0, none⟩, [41, 42]), (⟨some 44, .load 61 (.tmp 43), 61, none⟩, [43]), (⟨some 45, .move (.tmp 0), 36, none⟩, [0]), (⟨some 46, .move (.tmp 1), 3, none⟩, [1]), (⟨some 47, .indexAddr 36 (.tmp 45) (.tmp 46), 0, none⟩, [45, 46]), (⟨some 48, .load 61 (.tmp 47), 61, none⟩, [47]), (⟨some 49, .call ⟨.value (.tmp 40), #[.tmp 44, .tmp 48], #[61, 61]⟩, 3, none⟩, [40, 44, 48]), (⟨some 50, .binOp .lss 3 (.tmp 49) (.const (.int .i64 0)) 3, 4, none⟩, [49])]
abbrev r135_6 : List VOp :=
  [mv 51 12 3,
   zG 52 51,
   asg 10 52 3]
abbrev r135_7 : List VOp :=
  [mv 53 12 3,
   asg 11 53 3]
abbrev r135_8 : List VOp :=
  [mv 54 1 3,
   asg 13 54 3]
abbrev r135_9 : List VOp :=
  [mv 55 13 3,
   mv 56 10 3,
   zBD 57 56,
   zX 58 3 55 57 4]
def r135_11 : List (VOp × List Nat) := [(⟨some 61, .move (.tmp 0), 36, none⟩, [0]), (⟨some 62, .move (.tmp 13), 3, none⟩, [13]), (⟨some 63, .move (.tmp 0), 36, none⟩, [0]), (⟨some 64, .move (.tmp 13), 3, none⟩, [13]), (⟨some 65, .binOp .add 3 (.tmp 64) (.const (.int .i64 1)) 3, 3, none⟩, [64]), (⟨some 66, .move (.tmp 0), 36, none⟩, [0]), (⟨some 67, .move (.tmp 13), 3, none⟩, [13]), (⟨some 68, .binOp .add 3 (.tmp 67) (.const (.int .i64 1)) 3, 3, none⟩, [67]), (⟨some 69, .indexAddr 36 (.tmp 66) (.tmp 68), 0, none⟩, [66, 68]), (⟨some 70, .load 61 (.tmp 69), 61, none⟩, [69]), (⟨some 71, .move (.tmp 0), 36, none⟩, [0]), (⟨some 72, .move (.tmp 13), 3, none⟩, [13]), (⟨some 73, .indexAddr 36 (.tmp 71) (.tmp 72), 0, none⟩, [71, 72]), (⟨some 74, .load 61 (.tmp 73), 61, none⟩, [73]), (⟨some 75, .indexAddr 36 (.tmp 61) (.tmp 62), 0, none⟩, [61, 62]), (⟨none, .store 61 (.tmp 75) (.tmp 70), 0, none⟩, [75, 70]), (⟨some 76, .indexAddr 36 (.tmp 63) (.tmp 65), 0, none⟩, [63, 65]), (⟨none, .store 61 (.tmp 76) (.tmp 74), 0, none⟩, [76, 74])]
abbrev r135_10 : List VOp :=
  [mv 59 13 3,
   zG 60 59,
   asg 13 60 3]
abbrev r135_12 : List VOp :=
  [mv 77 3 3,
   mv 78 2 3,
   zBE 79 77 78,
   zI 80 3 79 1]
abbrev r135_13 : List VOp :=
  [mv 81 1 3,
   asg 14 81 3]
abbrev r135_14 : List VOp :=
  [mv 82 2 3,
   asg 15 82 3]
abbrev r135_15 : List VOp :=
  [mv 83 14 3,
   mv 84 15 3,
   zX 85 3 83 84 4]
abbrev r135_16 : List VOp :=
  [mv 86 14 3,
   mv 87 15 3,
   zH 88 86 87,
   zCA 89 3 150 88,
   zBC 90 89,
   zCA 91 150 3 90,
   asg 16 91 3]
def r135_17 : List (VOp × List Nat) := [(⟨some 92, .move (.tmp 4), 89, none⟩, [4]), (⟨some 93, .move (.tmp 0), 36, none⟩, [0]), (⟨some 94, .move (.tmp 2), 3, none⟩, [2]), (⟨some 95, .indexAddr 36 (.tmp 93) (.tmp 94), 0, none⟩, [93, 94]), (⟨some 96, .load 61 (.tmp 95), 61, none⟩, [95]), (⟨some 97, .move (.tmp 0), 36, none⟩, [0]), (⟨some 98, .move (.tmp 16), 3, none⟩, [16]), (⟨some 99, .indexAddr 36 (.tmp 97) (.tmp 98), 0, none⟩, [97, 98]), (⟨some 100, .load 61 (.tmp 99), 61, none⟩, [99]), (⟨some 101, .call ⟨.value (.tmp 92), #[.tmp 96, .tmp 100], #[61, 61]⟩, 3, none⟩, [92, 96, 100]), (⟨some 102, .binOp .lss 3 (.tmp 101) (.const (.int .i64 0)) 3, 4, none⟩, [101]), (⟨some 103, .unOp .not 4 (.tmp 102), 4, none⟩, [102])]
abbrev r135_18 : List VOp :=
  [mv 104 16 3,
   zG 105 104,
   asg 14 105 3]
abbrev r135_19 : List VOp :=
  [mv 106 16 3,
   asg 15 106 3]
abbrev r135_20 : List VOp :=
  [mv 107 2 3,
   asg 17 107 3]
abbrev r135_21 : List VOp :=
  [mv 108 17 3,
   mv 109 14 3,
   zS 110 3 108 109]
def r135_23 : List (VOp × List Nat) := [(⟨some 113, .move (.tmp 0), 36, none⟩, [0]), (⟨some 114, .move (.tmp 17), 3, none⟩, [17]), (⟨some 115, .move (.tmp 0), 36, none⟩, [0]), (⟨some 116, .move (.tmp 17), 3, none⟩, [17]), (⟨some 117, .binOp .sub 3 (.tmp 116) (.const (.int .i64 1)) 3, 3, none⟩, [116]), (⟨some 118, .move (.tmp 0), 36, none⟩, [0]), (⟨some 119, .move (.tmp 17), 3, none⟩, [17]), (⟨some 120, .binOp .sub 3 (.tmp 119) (.const (.int .i64 1)) 3, 3, none⟩, [119]), (⟨some 121, .indexAddr 36 (.tmp 118) (.tmp 120), 0, none⟩, [118, 120]), (⟨some 122, .load 61 (.tmp 121), 61, none⟩, [121]), (⟨some 123, .move (.tmp 0), 36, none⟩, [0]), (⟨some 124, .move (.tmp 17), 3, none⟩, [17]), (⟨some 125, .indexAddr 36 (.tmp 123) (.tmp 124), 0, none⟩, [123, 124]), (⟨some 126, .load 61 (.tmp 125), 61, none⟩, [125]), (⟨some 127, .indexAddr 36 (.tmp 113) (.tmp 114), 0, none⟩, [113, 114]), (⟨none, .store 61 (.tmp 127) (.tmp 122), 0, none⟩, [127, 122]), (⟨some 128, .indexAddr 36 (.tmp 115) (.tmp 117), 0, none⟩, [115, 117]), (⟨none, .store 61 (.tmp 128) (.tmp 126), 0, none⟩, [128, 126])]
abbrev r135_22 : List VOp :=
  [mv 111 17 3,
   zBD 112 111,
   asg 17 112 3]
abbrev r135_24 : List VOp :=
  [mv 129 1 3,
   mv 130 3 3,
   zH 131 129 130,
   zCA 132 3 150 131,
   zBC 133 132,
   zCA 134 150 3 133,
   asg 18 134 3]
abbrev r135_25 : List VOp :=
  [mv 135 18 3,
   mv 136 2 3,
   zH 137 135 136,
   asg 19 137 3]
abbrev r135_26 : List VOp :=
  [zE 20 0 3,
   zE 21 0 3]
abbrev r135_27 : List VOp :=
  [mv 138 2 3,
   mv 139 18 3,
   zS 140 3 138 139]
abbrev r135_28 : List VOp :=
  [mv 141 19 3,
   mv 142 3 3,
   zBE 143 141 142,
   asg 20 143 3]
abbrev r135_29 : List VOp :=
  [mv 144 18 3,
   asg 21 144 3]
abbrev r135_30 : List VOp :=
  [mv 145 1 3,
   asg 20 145 3]
abbrev r135_31 : List VOp :=
  [mv 146 2 3,
   asg 21 146 3]
abbrev r135_32 : List VOp :=
  [mv 147 19 3,
   zBD 148 147,
   asg 22 148 3]
abbrev r135_33 : List VOp :=
  [mv 149 20 3,
   mv 150 21 3,
   zX 151 3 149 150 4]
abbrev r135_34 : List VOp :=
  [mv 152 20 3,
   mv 153 21 3,
   zH 154 152 153,
   zCA 155 3 150 154,
   zBC 156 155,
   zCA 157 150 3 156,
   asg 23 157 3]
def r135_35 : List (VOp × List Nat) := [(⟨some 158, .move (.tmp 4), 89, none⟩, [4]), (⟨some 159, .move (.tmp 0), 36, none⟩, [0]), (⟨some 160, .move (.tmp 22), 3, none⟩, [22]), (⟨some 161, .move (.tmp 23), 3, none⟩, [23]), (⟨some 162, .binOp .sub 3 (.tmp 160) (.tmp 161) 3, 3, none⟩, [160, 161]), (⟨some 163, .indexAddr 36 (.tmp 159) (.tmp 162), 0, none⟩, [159, 162]), (⟨some 164, .load 61 (.tmp 163), 61, none⟩, [163]), (⟨some 165, .move (.tmp 0), 36, none⟩, [0]), (⟨some 166, .move (.tmp 23), 3, none⟩, [23]), (⟨some 167, .indexAddr 36 (.tmp 165) (.tmp 166), 0, none⟩, [165, 166]), (⟨some 168, .load 61 (.tmp 167), 61, none⟩, [167]), (⟨some 169, .call ⟨.value (.tmp 158), #[.tmp 164, .tmp 168], #[61, 61]⟩, 3, none⟩, [158, 164, 168]), (⟨some 170, .binOp .lss 3 (.tmp 169) (.const (.int .i64 0)) 3, 4, none⟩, [169]), (⟨some 171, .unOp .not 4 (.tmp 170), 4, none⟩, [170])]
abbrev r135_36 : List VOp :=
  [mv 172 23 3,
   zG 173 172,
   asg 20 173 3]
abbrev r135_37 : List VOp :=
  [mv 174 23 3,
   asg 21 174 3]
abbrev r135_38 : List VOp :=
  [mv 175 19 3,
   mv 176 20 3,
   zBE 177 175 176,
   asg 24 177 3]
abbrev r135_39 : List VOp :=
  [mv 178 20 3,
   mv 179 2 3,
   zX 180 3 178 179 4,
   mv 181 180 4,
   zCL 182 2 3 181,
   zCL 183 24 3 181,
   zY 184 182 183 181,
   zCN 185 181 184]
abbrev r135_40 : List VOp :=
  [mv 186 0 36,
   mv 187 20 3,
   mv 188 2 3,
   mv 189 24 3,
   mv 190 4 89,
   zBR 191 147 186 187 188 189 190 36 89]
abbrev r135_41 : List VOp :=
  [mv 192 1 3,
   mv 193 20 3,
   zX 194 3 192 193 4,
   mv 195 194 4,
   zCL 196 20 3 195,
   zCL 197 18 3 195,
   zY 198 196 197 195,
   zCN 199 195 198]
abbrev r135_42 : List VOp :=
  [mv 200 0 36,
   mv 201 1 3,
   mv 202 20 3,
   mv 203 18 3,
   mv 204 4 89,
   zBR 205 135 200 201 202 203 204 36 89]
abbrev r135_43 : List VOp :=
  [mv 206 18 3,
   mv 207 24 3,
   zX 208 3 206 207 4,
   mv 209 208 4,
   zCL 210 24 3 209,
   zCL 211 3 3 209,
   zY 212 210 211 209,
   zCN 213 209 212]
abbrev r135_44 : List VOp :=
  [mv 214 0 36,
   mv 215 18 3,
   mv 216 24 3,
   mv 217 3 3,
   mv 218 4 89,
   zBR 219 135 214 215 216 217 218 36 89]
def B135 : VC :=
  (.seq (.seq (.region r135_0) (.cond (.tmp 28) (.seq (.region r135_1) (.seq (.region r135_2) (.seq (.block 0 (.loop (.seq (.seq (.region r135_3) (.cond (.tmp 33) .skip (.exit 0))) (.block 1 (.seq (.region r135_4) (.seq (.draw (dR r135_5) 3) (.cond (.tmp 50) (.region r135_6) (.region r135_7)))))))) (.seq (.seq (.region r135_8) (.block 2 (.loop (.seq (.seq (.region r135_9) (.cond (.tmp 58) .skip (.exit 2))) (.seq (.block 3 (.drawS (dR r135_11) 3 [63, 64, 65])) (.region r135_10)))))) .ret)))) .skip)) (.seq (.seq (.region r135_12) (.cond (.tmp 80) (.seq (.region r135_13) (.seq (.region r135_14) (.seq (.block 4 (.loop (.seq (.seq (.region r135_15) (.cond (.tmp 85) .skip (.exit 4))) (.block 5 (.seq (.region r135_16) (.seq (.draw (dR r135_17) 4) (.cond (.tmp 103) (.region r135_18) (.region r135_19)))))))) (.seq (.seq (.region r135_20) (.block 6 (.loop (.seq (.seq (.region r135_21) (.cond (.tmp 110) .skip (.exit 6))) (.seq (.block 7 (.drawS (dR r135_23) 3 [115, 116, 117])) (.region r135_22)))))) .ret)))) .skip)) (.seq (.region r135_24) (.seq (.region r135_25) (.seq (.region r135_26) (.seq (.seq (.region r135_27) (.cond (.tmp 140) (.seq (.region r135_28) (.region r135_29)) (.seq (.region r135_30) (.region r135_31)))) (.seq (.region r135_32) (.seq (.block 8 (.loop (.seq (.seq (.region r135_33) (.cond (.tmp 151) .skip (.exit 8))) (.block 9 (.seq (.region r135_34) (.seq (.draw (dR r135_35) 4) (.cond (.tmp 171) (.region r135_36) (.region r135_37)))))))) (.seq (.region r135_38) (.seq (.seq (.region r135_39) (.cond (.tmp 185) (.region r135_40) .skip)) (.seq (.seq (.region r135_41) (.cond (.tmp 199) (.region r135_42) .skip)) (.seq (.region r135_43) (.cond (.tmp 213) (.region r135_44) .skip)))))))))))))
theorem code135 : ∃ c, Tryz.f135.body = some c ∧ abs Tryz.f135.ntmps c = B135 := ⟨_, rfl, by kernel_rfl⟩
theorem hb135 : HasBody Tryz.prog 135 := hasBody_of Tryz.func135 (by kernel_rfl)
theorem enter135 (x0 x1 x2 x3 x4 : Value) : Ent 135 B135 #[] [x0, x1, x2, x3, x4] := ent code135 hb135 Tryz.func135 rfl rfl
@[push_cast] def vr135_5 := vD r135_5.eq_1 rfl 3
@[push_cast] def vr135_11 := vS r135_11.eq_1 rfl 3 [63, 64, 65]
@[push_cast] def vr135_17 := vD r135_17.eq_1 rfl 4
@[push_cast] def vr135_23 := vS r135_23.eq_1 rfl 3 [115, 116, 117]
@[push_cast] def vr135_35 := vD r135_35.eq_1 rfl 4
/-! 147 slices.rotateCmpFunc[columbary/api.Group] (params #[36, 3, 3, 3, 89], results #[], 58 slots) -/
@[push_cast] def W147_0 : List Nat := [10, 11, 18, 19, 20, 21, 22, 23, 24, 25, 26, 27, 28, 29, 30, 31, 32, 33, 34, 35, 36, 37, 38, 39, 40, 41, 42, 43, 44, 45, 46, 47, 48, 49]
abbrev r147_0 : List VOp :=
  [mv 12 2 3,
   mv 13 1 3,
   zBE 14 12 13,
   asg 10 14 3]
abbrev r147_1 : List VOp :=
  [mv 15 3 3,
   mv 16 2 3,
   zBE 17 15 16,
   asg 11 17 3]
abbrev r147_2 : List VOp :=
  [mv 18 10 3,
   mv 19 11 3,
   zBB 20 3 18 19]
abbrev r147_3 : List VOp :=
  [mv 21 10 3,
   mv 22 11 3,
   zS 23 3 21 22]
abbrev r147_4 : List VOp :=
  [mv 24 0 36,
   mv 25 2 3,
   mv 26 10 3,
   zBE 27 25 26,
   mv 28 2 3,
   mv 29 11 3,
   mv 30 4 89,
   zBR 31 167 24 27 28 29 30 36 89]
abbrev r147_5 : List VOp :=
  [mv 32 10 3,
   mv 33 11 3,
   zBE 34 32 33,
   asg 10 34 3]
abbrev r147_6 : List VOp :=
  [mv 35 0 36,
   mv 36 2 3,
   mv 37 10 3,
   zBE 38 36 37,
   mv 39 2 3,
   mv 40 11 3,
   zH 41 39 40,
   mv 42 10 3,
   zBE 43 41 42,
   mv 44 10 3,
   mv 45 4 89,
   zBR 46 167 35 38 43 44 45 36 89]
abbrev r147_7 : List VOp :=
  [mv 47 11 3,
   mv 48 10 3,
   zBE 49 47 48,
   asg 11 49 3]
abbrev r147_8 : List VOp :=
  [mv 50 0 36,
   mv 51 2 3,
   mv 52 10 3,
   zBE 53 51 52,
   mv 54 2 3,
   mv 55 10 3,
   mv 56 4 89,
   zBR 57 167 50 53 54 55 56 36 89]
def B147 : VC :=
  (.seq (.region r147_0) (.seq (.region r147_1) (.seq (.block 0 (.loop (.seq (.seq (.region r147_2) (.cond (.tmp 20) .skip (.exit 0))) (.block 1 (.seq (.region r147_3) (.cond (.tmp 23) (.seq (.region r147_4) (.region r147_5)) (.seq (.region r147_6) (.region r147_7)))))))) (.region r147_8))))
theorem code147 : ∃ c, Tryz.f147.body = some c ∧ abs Tryz.f147.ntmps c = B147 := ⟨_, rfl, by kernel_rfl⟩
theorem hb147 : HasBody Tryz.prog 147 := hasBody_of Tryz.func147 (by kernel_rfl)
theorem enter147 (x0 x1 x2 x3 x4 : Value) : Ent 147 B147 #[] [x0, x1, x2, x3, x4] := ent code147 hb147 Tryz.func147 rfl rfl
/-! 167 slices.swapRangeCmpFunc[columbary/api.Group] (params #[36, 3, 3, 3, 89], results #[], 38 slots) -/
@[push_cast] def W167_0 : List Nat := [10, 11, 12, 13, 14, 15, 16, 17, 18, 19, 20, 21, 22, 23, 24, 25, 26, 27, 28, 29, 30, 31, 32, 33, 34, 35, 36, 37]
abbrev r167_0 : List VOp :=
  [zE 10 0 3]
abbrev r167_1 : List VOp :=
  [mv 11 10 3,
   mv 12 3 3,
   zX 13 3 11 12 4]
def r167_3 : List (VOp × List Nat) := [(⟨some 16, .move (.tmp 0), 36, none⟩, [0]), (⟨some 17, .move (.tmp 1), 3, none⟩, [1]), (⟨some 18, .move (.tmp 10), 3, none⟩, [10]), (⟨some 19, .binOp .add 3 (.tmp 17) (.tmp 18) 3, 3, none⟩, [17, 18]), (⟨some 20, .move (.tmp 0), 36, none⟩, [0]), (⟨some 21, .move (.tmp 2), 3, none⟩, [2]), (⟨some 22, .move (.tmp 10), 3, none⟩, [10]), (⟨some 23, .binOp .add 3 (.tmp 21) (.tmp 22) 3, 3, none⟩, [21, 22]), (⟨some 24, .move (.tmp 0), 36, none⟩, [0]), (⟨some 25, .move (.tmp 2), 3, none⟩, [2]), (⟨some 26, .move (.tmp 10), 3, none⟩, [10]), (⟨some 27, .binOp .add 3 (.tmp 25) (.tmp 26) 3, 3, none⟩, [25, 26]), (⟨some 28, .indexAddr 36 (.tmp 24) (.tmp 27), 0, none⟩, [24, 27]), (⟨some 29, .load 61 (.tmp 28), 61, none⟩, [28]), (⟨some 30, .move (.tmp 0), 36, none⟩, [0]), (⟨some 31, .move (.tmp 1), 3, none⟩, [1]), (⟨some 32, .move (.tmp 10), 3, none⟩, [10]), (⟨some 33, .binOp .add 3 (.tmp 31) (.tmp 32) 3, 3, none⟩, [31, 32]), (⟨some 34, .indexAddr 36 (.tmp 30) (.tmp 33), 0, none⟩, [30, 33]), (⟨some 35, .load 61 (.tmp 34), 61, none⟩, [34]), (⟨some 36, .indexAddr 36 (.tmp 16) (.tmp 19), 0, none⟩, [16, 19]), (⟨none, .store 61 (.tmp 36) (.tmp 29), 0, none⟩, [36, 29]), (⟨some 37, .indexAddr 36 (.tmp 20) (.tmp 23), 0, none⟩, [20, 23]), (⟨none, .store 61 (.tmp 37) (.tmp 35), 0, none⟩, [37, 35])]
abbrev r167_2 : List VOp :=
  [mv 14 10 3,
   zG 15 14,
   asg 10 15 3]
def B167 : VC :=
  (.seq (.region r167_0) (.block 0 (.loop (.seq (.seq (.region r167_1) (.cond (.tmp 13) .skip (.exit 0))) (.seq (.block 1 (.drawS (dR r167_3) 3 [20, 21, 22, 23])) (.region r167_2))))))
theorem code167 : ∃ c, Tryz.f167.body = some c ∧ abs Tryz.f167.ntmps c = B167 := ⟨_, rfl, by kernel_rfl⟩
theorem hb167 : HasBody Tryz.prog 167 := hasBody_of Tryz.func167 (by kernel_rfl)
theorem enter167 (x0 x1 x2 x3 x4 : Value) : Ent 167 B167 #[] [x0, x1, x2, x3, x4] := ent code167 hb167 Tryz.func167 rfl rfl
@[push_cast] def vr167_3 := vS r167_3.eq_1 rfl 3 [20, 21, 22, 23]
end Go.Proofs.YtnofalhkapmcnaaGreat
end
section
set_option linter.unusedSimpArgs false
namespace Go.Proofs.YtnofalhkapmcnaaGreat
open Go.Vc Go.Key Go.Stab
set_option maxRecDepth 100000
structure Gx where
  t : Int
  d : List ByteArray
  k : List Int
  dv : Value
  kv : Value
abbrev GR := Int × List ByteArray × List Int
def Gx.abs (g : Gx) : GR := (g.t, g.d, g.k)
def gxC (g : Gx) : List Value := [.int .i64 g.t, g.dv, g.kv]
theorem gxC_len (g : Gx) : (gxC g).length = 3 := rfl
def GxIs (w : World) (g : Gx) : Prop := StS w g.dv g.d ∧ Sl w g.kv (g.k.map i64v)
theorem GxIs.later {w w' : World} {g : Gx} (h : GxIs w g) (hl : Later w w') : GxIs w' g := ⟨Sl.later h.1 hl, Sl.later h.2 hl⟩
def GxO (w : World) (B : Nat) (g : Gx) : Prop := w.ownsRow B 9 1 g.dv g.d.length (g.d.map Value.string) ∧ w.ownsRow B 3 1 g.kv g.k.length (g.k.map i64v)
theorem GxO.is {w : World} {B : Nat} {g : Gx} (h : GxO w B g) : GxIs w g := ⟨Sl.of_own h.1, Sl.of_own h.2⟩
theorem GxO.later {w w' : World} {B : Nat} {g : Gx} (h : GxO w B g) (hl : Later w w') : GxO w' B g := ⟨own_later h.1 hl, own_later h.2 hl⟩
theorem GxO.chg {w w' : World} {B k : Nat} {g : Gx} {cs : Array Value} (h : GxO w B g) (hb : Blk w k cs 61) (c : Chg w w' [k]) : GxO w' B g :=
  ⟨own_chg_ty h.1 hb (by decide) c, own_chg_ty h.2 hb (by decide) c⟩
theorem gxC_one {w : World} {g : Gx} (h : GxIs w g) : ∀ u ∈ gxC g, u.oneCell' = true := by
  obtain ⟨o, c, h1, _⟩ := Sl.openM h.1
  obtain ⟨o', c', h2, _⟩ := Sl.openM h.2
  intro u hu
  unfold gxC at hu
  rw [h1, h2] at hu
  simp only [List.mem_cons, List.not_mem_nil, or_false] at hu
  rcases hu with rfl | rfl | rfl <;> rfl
def gkey (od : Int) (q : GR) : Int := if od = 0 then 0 else if od < 0 then -(q.2.2[od.natAbs - 1]!) else q.2.2[od.natAbs - 1]!
def rglt (od : Int) (x y : GR) : Bool := decide (gkey od x < gkey od y)
theorem rglt_swo (od : Int) : Swo (rglt od) := ⟨fun a b h => by
  have h := of_decide_eq_true h
  exact decide_eq_false (by omega), fun a b c h1 h2 => by
  have h1 := of_decide_eq_false h1
  have h2 := of_decide_eq_false h2
  exact decide_eq_false (by omega)⟩
structure Ge (kb : Nat) (od : Int) where
  g : Gx
variable {kb : Nat} {od : Int}
instance : Inhabited (Ge kb od) := ⟨⟨⟨0, [], [], .slice none 0 0, .slice none 0 0⟩⟩⟩
def geC (e : Ge kb od) : List Value := [.int .i64 e.g.t, e.g.dv, e.g.kv]
theorem geC_len (e : Ge kb od) : (geC e).length = 3 := rfl
def Odd (kb : Nat) (od : Int) (w : World) (g : Gx) : Prop := Blk w kb #[.int .i64 od] 3 ∧ od ≠ 0 ∧ od.natAbs ≤ g.k.length
theorem Odd.later {w w' : World} {g : Gx} (h : Odd kb od w g) (hl : Later w w') : Odd kb od w' g := ⟨h.1.chg (Chg.of_later (ks := []) hl) (by simp), h.2⟩
def GIs (w : World) (e : Ge kb od) : Prop := GxIs w e.g ∧ Odd kb od w e.g
theorem GIs.later {w w' : World} {e : Ge kb od} (h : GIs w e) (hl : Later w w') : GIs w' e := ⟨h.1.later hl, h.2.later hl⟩
def EG (w : World) (B : Nat) (e : Ge kb od) : Prop := GxO w B e.g ∧ Odd kb od w e.g
theorem EG.is {w : World} {B : Nat} {e : Ge kb od} (h : EG w B e) : GIs w e := ⟨h.1.is, h.2⟩
theorem EG.later {w w' : World} {B : Nat} {e : Ge kb od} (h : EG w B e) (hl : Later w w') : EG w' B e := ⟨h.1.later hl, h.2.later hl⟩
theorem blk_ne {w : World} {k j : Nat} {cs ds : Array Value} {e f : TypeId} (h : Blk w k cs e) (g : Blk w j ds f) (hne : e ≠ f) : k ≠ j := by
  intro hk
  subst hk
  unfold Blk at h g
  rw [h] at g
  simp only [Option.some.injEq, Obj.cells.injEq] at g
  exact hne g.2.1
theorem EG.chg {w w' : World} {B g : Nat} {e : Ge kb od} {cs : Array Value} (h : EG w B e) (hb : Blk w g cs 61) (c : Chg w w' [g]) : EG w' B e :=
  ⟨h.1.chg hb c, h.2.1.chg c (by simpa using blk_ne h.2.1 hb (by decide)), h.2.2⟩
theorem geC_one {w : World} {e : Ge kb od} (h : GIs w e) : ∀ u ∈ geC e, u.oneCell' = true := gxC_one h.1
abbrev OwnG (w : World) (B : Nat) (v : Value) (l : List (Ge kb od)) : Prop := OwnR geC 3 w B 61 v l
abbrev cmpG (kb : Nat) : Value := .func (.func 59) #[] #[.pointer (some ⟨kb, 0, none⟩)]
def gcmp (x y : Ge kb od) : Int := if gkey od x.g.abs < gkey od y.g.abs then -1 else if gkey od y.g.abs < gkey od x.g.abs then 1 else 0
def glt (x y : Ge kb od) : Bool := decide (gcmp x y < 0)
theorem glt_is (x y : Ge kb od) : glt x y = rglt od x.g.abs y.g.abs := by
  unfold glt gcmp rglt
  by_cases h1 : gkey od x.g.abs < gkey od y.g.abs
  · rw [if_pos h1, decide_eq_true h1]; rfl
  · rw [if_neg h1, decide_eq_false h1]
    by_cases h2 : gkey od y.g.abs < gkey od x.g.abs
    · rw [if_pos h2]; rfl
    · rw [if_neg h2]; rfl
theorem glt_swo : Swo (glt (kb := kb) (od := od)) := ⟨fun a b h => by rw [glt_is] at h ⊢; exact (rglt_swo od).asym _ _ h, fun a b c h1 h2 => by rw [glt_is] at h1 h2 ⊢; exact (rglt_swo od).ntr _ _ _ h1 h2⟩
set_option maxHeartbeats 1000000 in
theorem gcompare_c (x y : Ge kb od) (w : World) (hx : GIs w x) (hy : GIs w y) : FnC Tryz.prog 59 #[.agg (geC x).toArray, .agg (geC y).toArray, .pointer (some ⟨kb, 0, none⟩)] w fun r w' => r = .int .i64 (gcmp x y) ∧ Later w w' := by
  obtain ⟨⟨_, hxk⟩, hB, hne, hlx⟩ := hx
  obtain ⟨⟨_, hyk⟩, _, _, hly⟩ := hy
  obtain ⟨ox, cx, hkx, gx1, gx2, hxk', _⟩ := Sl.openM hxk
  obtain ⟨oy, cy, hky, gy1, gy2, hyk', _⟩ := Sl.openM hyk
  refine enter59 _ _ _ ?_
  unfold B59
  have eca : (Value.agg (geC x).toArray).cells = (geC x).toArray := rfl
  have ecb : (Value.agg (geC y).toArray).cells = (geC y).toArray := rfl
  have l1 := later_alloc w (.cells (geC x).toArray 61)
  have B1 := Blk.new w (geC x).toArray 61
  have s1 : (w.alloc (.cells (geC x).toArray 61)).heap.size = w.heap.size + 1 := World.size_alloc w _
  repeat' (first | (simp (disch := omega) only [push_cast, seval, eca, ecb, s1]) | refine iX ?_ ?_ <;> intros | refine aI (by omega) ?_ | fail)
  generalize w.alloc (.cells (geC x).toArray 61) = w1 at *
  have l2 := later_alloc w1 (.cells (geC y).toArray 61)
  have B2 := Blk.new w1 (geC y).toArray 61
  rw [s1] at B2
  generalize w1.alloc (.cells (geC y).toArray 61) = w2 at *
  have l02 := l1.trans l2
  have B1 := B1.chg (Chg.of_later (ks := []) l2) (by simp)
  have BK := hB.chg (Chg.of_later (ks := []) l02) (by simp)
  have hkb := hB.lt
  have ck : w2.cell? ⟨kb, 0, none⟩ = some (.int .i64 od) := BK.cell 0
  have hxk2 := hxk'.later l02
  have hyk2 := hyk'.later l02
  generalize hkf : w.heap.size = kf at *
  obtain ⟨i, hi⟩ : ∃ i, i = od.natAbs - 1 := ⟨_, rfl⟩
  have hix : i < x.g.k.length := by omega
  have hiy : i < y.g.k.length := by omega
  obtain ⟨ax, rfl⟩ := hxk'.some hix
  obtain ⟨ay, rfl⟩ := hyk'.some hiy
  have cax := hxk2.atI hix
  have cay := hyk2.atI hiy
  have gx' : x.g.k[i]! = x.g.k[i] := getElem!_pos x.g.k i hix
  have gy' : y.g.k[i]! = y.g.k[i] := getElem!_pos y.g.k i hiy
  by_cases hod : od < 0
  · have e1 : decide (od < 0) = true := decide_eq_true hod
    have fa : cellsAt w2 ⟨kf, 0, none⟩ 3 = some (geC x) := Blk.cellsAt (l := geC x) B1
    have fb : cellsAt w2 ⟨kf + 1, 0, none⟩ 3 = some (geC y) := Blk.cellsAt (l := geC y) B2
    repeat' (first | (simp (disch := omega) only [push_cast, seval, ck, e1, fa, fb]) | refine iX ?_ ?_ <;> intros | refine aI (by omega) ?_ | refine dq ?_)
    refine vStore_blk (l := geC x) (xs := geC y) B1 rfl rfl (gxC_one ⟨by assumption, hyk⟩) ?_
    intro w3 B3 c3
    have B23 := B2.chg c3 (by simp)
    have BK3 := BK.chg c3 (by simp; omega)
    repeat' (first | (simp (disch := omega) only [push_cast, seval]) | refine iX ?_ ?_ <;> intros | refine aI (by omega) ?_ | refine dq ?_)
    refine vStore_blk (l := geC y) (xs := geC x) B23 rfl rfl (gxC_one ⟨by assumption, hxk⟩) ?_
    intro w4 B4 c4
    have B34 := B3.chg c4 (by simp)
    have BK4 := BK3.chg c4 (by simp; omega)
    have l04 : Later w w4 := Chg.later (Chg.later l02 c3 (by intro j hj; rw [List.mem_singleton.1 hj]; omega)) c4 (by intro j hj; rw [List.mem_singleton.1 hj]; omega)
    have ck4 : w4.cell? ⟨kb, 0, none⟩ = some (.int .i64 od) := BK4.cell 0
    have fy : w4.cell? ⟨kf, 2, none⟩ = some y.g.kv := B34.cell 2
    have fx : w4.cell? ⟨kf + 1, 2, none⟩ = some x.g.kv := B4.cell 2
    rw [hky] at fy
    rw [hkx] at fx
    have dx := (hxk'.later l04).atI hix
    have dy := (hyk'.later l04).atI hiy
    have em : 0 - od - 1 = (i : Int) := by omega
    repeat' (first | (simp (disch := omega) only [push_cast, seval, ck4, em, fy, fx, dx, dy, addr_add_eq, Nat.zero_add]) | refine iX ?_ ?_ <;> intros | refine aI (by omega) ?_ | refine dq ?_)
    refine QFn.of hb60 (v := .int .i64 (if y.g.k[i] < x.g.k[i] then -1 else if x.g.k[i] < y.g.k[i] then 1 else 0)) (fun w' hl => (cmpI_c y.g.k[i] x.g.k[i] w').mono ?_) ?_
    · rintro _ w5 ⟨rfl, h5⟩; obtain rfl := h5.symm
      exact ⟨rfl, Later.refl _⟩
    repeat' (first | (simp (disch := omega) only [push_cast, seval]) | refine iX ?_ ?_ <;> intros | refine aI (by omega) ?_ | refine dq ?_)
    intro w5 l5
    repeat' (first | (simp (disch := omega) only [push_cast, seval]) | refine iX ?_ ?_ <;> intros | refine aI (by omega) ?_ | refine dq ?_)
    refine ⟨?_, l04.trans l5⟩
    unfold gcmp gkey
    rw [if_neg hne, if_pos hod, if_neg hne, if_pos hod]
    show _ = Value.int .i64 (if -(x.g.k[od.natAbs - 1]!) < -(y.g.k[od.natAbs - 1]!) then -1 else if -(y.g.k[od.natAbs - 1]!) < -(x.g.k[od.natAbs - 1]!) then 1 else 0)
    rw [← hi, gx', gy']
    simp only [Int.neg_lt_neg_iff]
  · have e1 : decide (od < 0) = false := decide_eq_false hod
    have fx : w2.cell? ⟨kf, 2, none⟩ = some x.g.kv := B1.cell 2
    have fy : w2.cell? ⟨kf + 1, 2, none⟩ = some y.g.kv := B2.cell 2
    rw [hky] at fy
    rw [hkx] at fx
    have em : od - 1 = (i : Int) := by omega
    repeat' (first | (simp (disch := omega) only [push_cast, seval, ck, e1, em, fy, fx, cax, cay, addr_add_eq, Nat.zero_add]) | refine iX ?_ ?_ <;> intros | refine aI (by omega) ?_ | refine dq ?_)
    refine QFn.of hb60 (v := .int .i64 (if x.g.k[i] < y.g.k[i] then -1 else if y.g.k[i] < x.g.k[i] then 1 else 0)) (fun w' hl => (cmpI_c x.g.k[i] y.g.k[i] w').mono ?_) ?_
    · rintro _ w5 ⟨rfl, h5⟩; obtain rfl := h5.symm
      exact ⟨rfl, Later.refl _⟩
    repeat' (first | (simp (disch := omega) only [push_cast, seval]) | refine iX ?_ ?_ <;> intros | refine aI (by omega) ?_ | refine dq ?_)
    intro w5 l5
    repeat' (first | (simp (disch := omega) only [push_cast, seval]) | refine iX ?_ ?_ <;> intros | refine aI (by omega) ?_ | refine dq ?_)
    refine ⟨?_, l02.trans l5⟩
    unfold gcmp gkey
    rw [if_neg hne, if_neg hod, if_neg hne, if_neg hod]
    show _ = Value.int .i64 (if x.g.k[od.natAbs - 1]! < y.g.k[od.natAbs - 1]! then -1 else if y.g.k[od.natAbs - 1]! < x.g.k[od.natAbs - 1]! then 1 else 0)
    rw [← hi, gx', gy']
end Go.Proofs.YtnofalhkapmcnaaGreat
end
section
set_option linter.unusedSimpArgs false
namespace Go.Proofs.YtnofalhkapmcnaaGreat
open Go.Vc Go.Key Go.Stab
set_option maxRecDepth 100000
variable {kb : Nat} {od : Int}
structure Sg (w : World) (B B' g c : Nat) (L l : List (Ge kb od)) : Prop where
  own : OwnG w B (.slice (some ⟨g, 0, none⟩) l.length c) l
  els : ∀ e ∈ L, EG w B' e
  sub : ∀ e ∈ l, e ∈ L
  big : l.length ≤ 1000000
theorem Sg.later {w w' : World} {B B' g c : Nat} {L l : List (Ge kb od)} (h : Sg w B B' g c L l) (hl : Later w w') : Sg w' B B' g c L l := ⟨h.own.later hl, fun e he => (h.els e he).later hl, h.sub, h.big⟩
theorem Sg.at {w : World} {B B' g c : Nat} {L l : List (Ge kb od)} (h : Sg w B B' g c L l) {i : Nat} (hi : i < l.length) : cellsAt w ⟨g, i * 3, none⟩ 3 = some (geC l[i]!) := by
  rw [getElem!_pos l i hi]
  have := RecS.get geC_len h.own.s hi
  rwa [addr_add_eq, Nat.zero_add] at this
theorem Sg.elAt {w : World} {B B' g c : Nat} {L l : List (Ge kb od)} (h : Sg w B B' g c L l) {i : Nat} (hi : i < l.length) : EG w B' l[i]! := by
  rw [getElem!_pos l i hi]
  exact h.els _ (h.sub _ (List.getElem_mem _))
theorem Sg.store {w : World} {B B' g c : Nat} {L l : List (Ge kb od)} (h : Sg w B B' g c L l) {i : Nat} (hi : i < l.length) {e : (Ge kb od)} (he : e ∈ L) {K : Value → World → Prop} (hK : ∀ w', Sg w' B B' g c L (l.set i e) → Chg w w' [g] → K undef w') :
    vStoreD Tryz.prog 61 (some 3) (.pointer (some ⟨g, i * 3, none⟩)) (.agg (geC e).toArray) K w := by
  obtain ⟨g', eg, hB, ⟨cs, hb⟩, hcan, ho, hc⟩ := OwnR.set geC_len h.own hi e
  have eg' : g = g' := by have := congrArg Addr.block eg; simpa using this
  subst eg'
  rw [addr_add_eq, Nat.zero_add] at hcan ho hc
  refine ⟨rfl, ?_, ?_, ?_⟩
  · simpa [Value.cells] using geC_one (h.els e he).is
  · simpa [Value.cells] using hcan
  · have e1 : (Value.agg (geC e).toArray).cells.toList = geC e := by simp [Value.cells]
    rw [e1]
    refine hK _ ⟨by simpa using ho, fun x hx => (h.els x hx).chg hb hc, fun x hx => ?_, by simpa using h.big⟩ hc
    rcases List.mem_or_eq_of_mem_set hx with hx | rfl
    · exact h.sub x hx
    · exact he
theorem Sg.mem {w : World} {B B' g c : Nat} {L l : List (Ge kb od)} (h : Sg w B B' g c L l) {i : Nat} (hi : i < l.length) : l[i]! ∈ L := by rw [getElem!_pos l i hi]; exact h.sub _ (List.getElem_mem _)
theorem gswapRange_c (B B' g c : Nat) (L l : List (Ge kb od)) (a b k : Nat) (w : World) (h : Sg w B B' g c L l) (ha : a + k ≤ l.length) (hb : b + k ≤ l.length) :
    FnC Tryz.prog 167 #[.slice (some ⟨g, 0, none⟩) l.length c, .int .i64 a, .int .i64 b, .int .i64 k, (cmpG kb)] w fun r w' => Sg w' B B' g c L (swps l a b k) ∧ Chg w w' [g] := by
  have hbig := h.big
  refine enter167 _ _ _ _ _ ?_
  unfold B167
  repeat' (first | (simp (disch := omega) only [push_cast, seval]) | refine iX ?_ ?_ <;> intros | refine aI (by omega) ?_ | refine dq ?_)
  refine vc_loop W167_0 (fun i : Nat => [(10, .int .i64 (i : Int))]) (fun i w' => i ≤ k ∧ Sg w' B B' g c L (swps l a b i) ∧ Chg w w' [g]) (fun i => k - i) 0 (by decide) ?_ ?_ ?_
  · simp (disch := omega) only [push_cast, seval]
  · exact ⟨by omega, h, Chg.refl _ _⟩
  rintro i uu w1 ⟨hi, h1, c1⟩
  have hlen := swps_len l a b i
  by_cases hlt : i < k
  · have ea : ((a : Int) + (i : Int)).toNat = a + i := by omega
    have eb : ((b : Int) + (i : Int)).toNat = b + i := by omega
    have fa := h1.at (i := a + i) (by omega)
    have fb := h1.at (i := b + i) (by omega)
    repeat' (first | (simp (disch := omega) only [push_cast, seval]) | refine iX ?_ ?_ <;> intros | refine aI (by omega) ?_ | fail)
    refine drawnS_k 21 ?_
    repeat' (first | (simp (disch := omega) only [push_cast, seval, ea, eb, fa, fb]) | refine iX ?_ ?_ <;> intros | refine aI (by omega) ?_ | fail)
    refine ⟨rfl, fun w2 l2 => ⟨by simp (disch := omega) only [push_cast, seval, implies_true, and_self], ?_⟩⟩
    have h2 := h1.later l2
    have c2 := c1.trans (Chg.of_later l2)
    repeat' (first | (simp (disch := omega) only [push_cast, seval, ea, eb]) | refine iX ?_ ?_ <;> intros | refine aI (by omega) ?_ | fail)
    refine h2.store (i := a + i) (by omega) (h2.mem (i := b + i) (by omega)) fun w3 h3 c3 => ?_
    repeat' (first | (simp (disch := omega) only [push_cast, seval, eb]) | refine iX ?_ ?_ <;> intros | refine aI (by omega) ?_ | fail)
    refine h3.store (i := b + i) (by simp; omega) (h2.mem (i := a + i) (by omega)) fun w4 h4 c4 => ?_
    repeat' (first | (simp (disch := omega) only [push_cast, seval]) | refine iX ?_ ?_ <;> intros | refine aI (by omega) ?_ | refine dq ?_)
    exact ⟨rfl, i + 1, by simp (disch := omega) only [push_cast, seval], ⟨by omega, h4, (c2.trans c3).trans c4⟩, by dsimp only; omega⟩
  · have e : i = k := by omega
    subst e
    repeat' (first | (simp (disch := omega) only [push_cast, seval]) | refine iX ?_ ?_ <;> intros | refine aI (by omega) ?_ | refine dq ?_)
    first | exact ⟨h1, c1⟩ | exact c1
theorem grotate_c (B B' g c : Nat) (L X u v Y : List (Ge kb od)) (w : World) (h : Sg w B B' g c L (X ++ u ++ v ++ Y)) (hu : 0 < u.length) (hv : 0 < v.length) :
    FnC Tryz.prog 147 #[.slice (some ⟨g, 0, none⟩) (X ++ u ++ v ++ Y).length c, .int .i64 X.length, .int .i64 ((X.length + u.length : Nat) : Int), .int .i64 ((X.length + u.length + v.length : Nat) : Int), (cmpG kb)] w fun r w' => Sg w' B B' g c L (X ++ v ++ u ++ Y) ∧ Chg w w' [g] := by
  have hbig := h.big
  have hlen : (X ++ u ++ v ++ Y).length = X.length + u.length + v.length + Y.length := by simp; omega
  rw [hlen] at hbig
  generalize hN : (X ++ u ++ v ++ Y).length = N at *
  refine enter147 _ _ _ _ _ ?_
  unfold B147
  have ei : ((X.length + u.length : Nat) : Int) - (X.length : Int) = (u.length : Int) := by omega
  have ej : ((X.length + u.length + v.length : Nat) : Int) - ((X.length + u.length : Nat) : Int) = (v.length : Int) := by omega
  generalize hm : X.length + u.length = m at *
  have ej' : (m : Int) + (v.length : Int) - (m : Int) = (v.length : Int) := by omega
  repeat' (first | (simp (disch := omega) only [push_cast, seval, ei, ej]) | refine iX ?_ ?_ <;> intros | refine aI (by omega) ?_ | refine dq ?_)
  refine vc_loop W147_0 (fun p : Nat × Nat => [(10, .int .i64 (p.1 : Int)), (11, .int .i64 (p.2 : Int))])
    (fun p w' => ∃ dl P Q dr, P.length = p.1 ∧ Q.length = p.2 ∧ 0 < p.1 ∧ 0 < p.2 ∧ X.length + dl.length + P.length = m ∧ v ++ u = dl ++ Q ++ P ++ dr ∧ Sg w' B B' g c L (X ++ dl ++ P ++ Q ++ (dr ++ Y)) ∧ Chg w w' [g]) (fun p => p.1 + p.2) (u.length, v.length) (by decide) ?_ ?_ ?_
  · simp (disch := omega) only [push_cast, seval, ei, ej, ej']
  · exact ⟨[], u, v, [], rfl, rfl, hu, hv, by simp; omega, by simp, by simpa using h, Chg.refl _ _⟩
  rintro ⟨i, j⟩ uu w1 ⟨dl, P, Q, dr, hP, hQ, hi0, hj0, hmP, hvu, h1, c1⟩
  dsimp only at hP hQ hi0 hj0
  have htot := congrArg List.length hvu
  simp only [List.length_append] at htot
  have hLn : (X ++ dl ++ P ++ Q ++ (dr ++ Y)).length = N := by simp only [List.length_append]; omega
  rcases Nat.lt_trichotomy i j with hij | hij | hij
  · obtain ⟨Q1, Q2, rfl, q2, q1, hs⟩ := rot_lt (X := X ++ dl) (P := P) (Q := Q) (Y := dr ++ Y) (by omega)
    have h1' := gswapRange_c B B' g c L (X ++ dl ++ P ++ (Q1 ++ Q2) ++ (dr ++ Y)) (X ++ dl).length ((X ++ dl).length + (Q1 ++ Q2).length) P.length w1 h1 (by simp only [List.length_append]; omega) (by simp only [List.length_append] at *; omega)
    rw [hs, hLn] at h1'
    have a1 : ((X ++ dl).length : Int) = (m : Int) - (i : Int) := by rw [List.length_append]; omega
    have a2 : (((X ++ dl).length + (Q1 ++ Q2).length : Nat) : Int) = (m : Int) + (j : Int) - (i : Int) := by rw [List.length_append, hQ]; omega
    rw [a1, a2, hP] at h1'
    have hjo := hQ
    rw [List.length_append] at hjo
    repeat' (first | (simp (disch := omega) only [push_cast, seval]) | refine iX ?_ ?_ <;> intros | refine aI (by omega) ?_ | refine dq ?_)
    refine h1'.mono ?_
    rintro _ w2 ⟨h2, c2⟩
    repeat' (first | (simp (disch := omega) only [push_cast, seval]) | refine iX ?_ ?_ <;> intros | refine aI (by omega) ?_ | refine dq ?_)
    refine ⟨rfl, (i, j - i), by simp (disch := omega) only [push_cast, seval], ⟨dl, Q2, Q1, P ++ dr, by dsimp only; omega, by dsimp only; omega, by dsimp only; omega, by dsimp only; omega, by omega, ?_, by simpa using h2, c1.trans c2⟩, by dsimp only; omega⟩
    rw [hvu]; simp
  · subst hij
    have hs := rot_eq (X := X ++ dl) (P := P) (Q := Q) (Y := dr ++ Y) (by omega)
    have h1' := gswapRange_c B B' g c L (X ++ dl ++ P ++ Q ++ (dr ++ Y)) (X ++ dl).length ((X ++ dl).length + P.length) P.length w1 h1 (by simp only [List.length_append]; omega) (by simp only [List.length_append]; omega)
    rw [hs, hLn] at h1'
    have a1 : ((X ++ dl).length : Int) = (m : Int) - (i : Int) := by rw [List.length_append]; omega
    have a2 : (((X ++ dl).length + P.length : Nat) : Int) = (m : Int) := by rw [List.length_append]; omega
    rw [a1, a2, hP] at h1'
    repeat' (first | (simp (disch := omega) only [push_cast, seval]) | refine iX ?_ ?_ <;> intros | refine aI (by omega) ?_ | refine dq ?_)
    refine h1'.mono ?_
    rintro _ w2 ⟨h2, c2⟩
    have hf : Sg w2 B B' g c L (X ++ v ++ u ++ Y) := by
      have e : X ++ v ++ u ++ Y = X ++ dl ++ Q ++ P ++ (dr ++ Y) := by
        rw [List.append_assoc X v u, hvu]; simp
      rw [e]; exact h2
    repeat' (first | (simp (disch := omega) only [push_cast, seval]) | refine iX ?_ ?_ <;> intros | refine aI (by omega) ?_ | refine dq ?_)
    first | exact ⟨hf, (c1.trans c2)⟩ | exact (c1.trans c2)
  · obtain ⟨P1, P2, rfl, q1, q2, hs⟩ := rot_gt (X := X ++ dl) (P := P) (Q := Q) (Y := dr ++ Y) (by omega)
    have h1' := gswapRange_c B B' g c L (X ++ dl ++ (P1 ++ P2) ++ Q ++ (dr ++ Y)) (X ++ dl).length ((X ++ dl).length + (P1 ++ P2).length) Q.length w1 h1 (by simp only [List.length_append] at *; omega) (by simp only [List.length_append] at *; omega)
    rw [hs, hLn] at h1'
    have a1 : ((X ++ dl).length : Int) = (m : Int) - (i : Int) := by rw [List.length_append]; omega
    have a2 : (((X ++ dl).length + (P1 ++ P2).length : Nat) : Int) = (m : Int) := by rw [List.length_append]; omega
    rw [a1, a2, hQ] at h1'
    have hio := hP
    rw [List.length_append] at hio
    repeat' (first | (simp (disch := omega) only [push_cast, seval]) | refine iX ?_ ?_ <;> intros | refine aI (by omega) ?_ | refine dq ?_)
    refine h1'.mono ?_
    rintro _ w2 ⟨h2, c2⟩
    repeat' (first | (simp (disch := omega) only [push_cast, seval]) | refine iX ?_ ?_ <;> intros | refine aI (by omega) ?_ | refine dq ?_)
    refine ⟨rfl, (i - j, j), by simp (disch := omega) only [push_cast, seval], ⟨dl ++ Q, P2, P1, dr, by dsimp only; omega, by dsimp only; omega, by dsimp only; omega, by dsimp only; omega, by simp only [List.length_append]; omega, ?_, by simpa using h2, c1.trans c2⟩, by dsimp only; omega⟩
    rw [hvu]; simp
end Go.Proofs.YtnofalhkapmcnaaGreat
end
section
set_option linter.unusedSimpArgs false
namespace Go.Proofs.YtnofalhkapmcnaaGreat
open Go.Vc Go.Key Go.Stab
set_option maxRecDepth 100000
variable {kb : Nat} {od : Int}
theorem gsw_near (A B : List (Ge kb od)) (p e : (Ge kb od)) : sw (A ++ p :: (e :: B)) (A.length + 1) A.length = A ++ e :: (p :: B) := by
  rw [sw_comm _ _ _ (by simp) (by simp)]
  have := sw_app A [] B p e
  simpa using this
set_option maxHeartbeats 1000000 in
theorem ginsertion_c (B B' g c : Nat) (L X M Y : List (Ge kb od)) (w : World) (h : Sg w B B' g c L (X ++ M ++ Y)) :
    FnC Tryz.prog 134 #[.slice (some ⟨g, 0, none⟩) (X ++ M ++ Y).length c, .int .i64 X.length, .int .i64 ((X.length + M.length : Nat) : Int), (cmpG kb)] w fun r w' => ∃ M', Srt glt M' ∧ Stb glt M M' ∧ Sg w' B B' g c L (X ++ M' ++ Y) ∧ Chg w w' [g] := by
  have hs := (glt_swo (kb := kb) (od := od))
  have hbig := h.big
  have hlen : (X ++ M ++ Y).length = X.length + M.length + Y.length := by simp; omega
  rw [hlen] at hbig
  generalize hN : (X ++ M ++ Y).length = N at *
  refine enter134 _ _ _ _ ?_
  unfold B134
  repeat' (first | (simp (disch := omega) only [push_cast, seval]) | refine iX ?_ ?_ <;> intros | refine aI (by omega) ?_ | refine dq ?_)
  refine vc_loop W134_0 (fun i : Nat => [(8, .int .i64 ((X.length : Int) + 1 + (i : Int)))])
    (fun i w' => i ≤ M.length ∧ ∃ S, S.length = (M.take (i + 1)).length ∧ Srt glt S ∧ Stb glt (M.take (i + 1)) S ∧ Sg w' B B' g c L (X ++ S ++ (M.drop (i + 1) ++ Y)) ∧ Chg w w' [g]) (fun i => M.length - i) 0 (by decide) ?_ ?_ ?_
  · simp (disch := omega) only [push_cast, seval, Int.add_zero]
  · refine ⟨by omega, M.take 1, rfl, ?_, Stb.refl _, ?_, Chg.refl _ _⟩
    · cases M with
      | nil => exact srt_nil
      | cons a M => simp [Srt]
    · have e : X ++ M.take (0 + 1) ++ (M.drop (0 + 1) ++ Y) = X ++ M ++ Y := by
        rw [List.append_assoc X, ← List.append_assoc (M.take _), List.take_append_drop, ← List.append_assoc]
      rw [e]; exact h
  rintro i uu w1 ⟨hi, S, hS, sS, tS, h1, c1⟩
  have hL1 : (X ++ S ++ (M.drop (i + 1) ++ Y)).length = N := by
    simp only [List.length_append, List.length_drop]
    rw [List.length_take] at hS
    omega
  by_cases hlt : i + 1 < M.length
  · obtain ⟨e, he⟩ : ∃ e, e = M[i + 1] := ⟨_, rfl⟩
    have hdr : M.drop (i + 1) = e :: M.drop (i + 2) := by rw [List.drop_eq_getElem_cons hlt, he]
    have htk : M.take (i + 2) = M.take (i + 1) ++ [e] := by rw [take_snoc M (i + 1) hlt, he]
    have hSl : S.length = i + 1 := by rw [hS, List.length_take]; omega
    rw [hdr] at h1
    generalize hR : M.drop (i + 2) = R at *
    repeat' (first | (simp (disch := omega) only [push_cast, seval]) | refine iX ?_ ?_ <;> intros | refine aI (by omega) ?_ | refine dq ?_)
    refine vc_loop W134_1 (fun k : Nat => [(9, .int .i64 ((X.length : Int) + (k : Int)))])
      (fun k w' => ∃ S1 S2, S = S1 ++ S2 ∧ S1.length = k ∧ (∀ s ∈ S2, glt e s = true) ∧ Sg w' B B' g c L ((X ++ S1) ++ e :: (S2 ++ (R ++ Y))) ∧ Chg w w' [g]) (fun k => k) (i + 1) (by decide) ?_ ?_ ?_
    · have e1 : (X.length : Int) + 1 + (i : Int) = (X.length : Int) + ((i : Int) + 1) := by omega
      simp (disch := omega) only [push_cast, seval, e1]
    · exact ⟨S, [], by simp, hSl, by simp, by simpa using h1, c1⟩
    rintro k uu2 w2 ⟨S1, S2, hSS, hk, hS2, h2, c2⟩
    have hL2 : ((X ++ S1) ++ e :: (S2 ++ (R ++ Y))).length = N := by
      rw [← hL1, hSS]
      simp only [List.length_append, List.length_cons, hdr]
      omega
    have hXk : (X ++ S1).length = X.length + k := by rw [List.length_append, hk]
    have hkN : X.length + k < N := by rw [← hL2, ← hXk]; simp
    have fin : ∀ w3, Later w2 w3 → (S1 = [] ∨ ∃ T p, S1 = T ++ [p] ∧ glt e p = false) → ∃ S', S'.length = (M.take (i + 1 + 1)).length ∧ Srt glt S' ∧ Stb glt (M.take (i + 1 + 1)) S' ∧ Sg w3 B B' g c L (X ++ S' ++ (M.drop (i + 1 + 1) ++ Y)) ∧ Chg w w3 [g] := by
      intro w3 l3 hp
      refine ⟨S1 ++ e :: S2, ?_, ins_srt hs (by rw [← hSS]; exact sS) hp hS2, ?_, ?_, c2.trans (Chg.of_later l3)⟩
      · rw [htk, List.length_append, List.length_append, ← hS, hSS]; simp; omega
      · rw [htk]
        have := (tS.append (Stb.refl (lt := glt) [e])).trans (by rw [hSS]; exact ins_stb hs hS2)
        exact this
      · have := h2.later l3
        rw [show M.drop (i + 1 + 1) = R from hR]
        simpa using this
    rcases Nat.eq_zero_or_pos k with hk0 | hk0
    · subst hk0
      have hS1 : S1 = [] := List.length_eq_zero_iff.1 hk
      repeat' (first | (simp (disch := omega) only [push_cast, seval]) | refine iX ?_ ?_ <;> intros | refine aI (by omega) ?_ | refine dq ?_)
      intro w3 l3
      repeat' (first | (simp (disch := omega) only [push_cast, seval]) | refine iX ?_ ?_ <;> intros | refine aI (by omega) ?_ | refine dq ?_)
      have e1 : (X.length : Int) + 1 + (i : Int) + 1 = (X.length : Int) + 1 + ((i : Int) + 1) := by omega
      exact ⟨rfl, i + 1, by simp (disch := omega) only [push_cast, seval, e1], ⟨by omega, fin w3 l3 (.inl hS1)⟩, by dsimp only; omega⟩
    · obtain ⟨T, p, rfl⟩ : ∃ T p, S1 = T ++ [p] := ⟨S1.dropLast, S1.getLast (by intro h; rw [h] at hk; simp at hk; omega), (List.dropLast_concat_getLast _).symm⟩
      have hTk : (X ++ T).length + 1 = X.length + k := by rw [← hXk]; simp; omega
      have hcur : (X ++ (T ++ [p])) ++ e :: (S2 ++ (R ++ Y)) = (X ++ T) ++ p :: (e :: (S2 ++ (R ++ Y))) := by simp
      have ge : ((X ++ (T ++ [p])) ++ e :: (S2 ++ (R ++ Y)))[X.length + k]! = e := by rw [← hXk]; exact get_app _ _ _
      have gp : ((X ++ (T ++ [p])) ++ e :: (S2 ++ (R ++ Y)))[X.length + k - 1]! = p := by
        have : X.length + k - 1 = (X ++ T).length := by omega
        rw [this, hcur]; exact get_app _ _ _
      have fe := h2.at (i := X.length + k) (by omega)
      have fp := h2.at (i := X.length + k - 1) (by omega)
      have oe := h2.elAt (i := X.length + k) (by omega)
      have op := h2.elAt (i := X.length + k - 1) (by omega)
      rw [ge] at fe oe
      rw [gp] at fp op
      have t1 : ((X.length : Int) + (k : Int)).toNat = X.length + k := by omega
      have t2 : ((X.length : Int) + (k : Int) - 1).toNat = X.length + k - 1 := by omega
      have hcmp : glt e p = decide (gcmp e p < 0) := rfl
      repeat' (first | (simp (disch := omega) only [push_cast, seval, t1, t2, fe, fp]) | refine iX ?_ ?_ <;> intros | refine aI (by omega) ?_ | refine dq ?_)
      refine QFn.of hb59 (v := .int .i64 (gcmp e p)) (fun w' hl => gcompare_c e p w' (oe.is.later hl) (op.is.later hl)) ?_
      by_cases hlt2 : gcmp e p < 0
      · repeat' (first | (simp (disch := omega) only [push_cast, seval]) | refine iX ?_ ?_ <;> intros | refine aI (by omega) ?_ | refine dq ?_)
        intro w3 l3
        have h3 := h2.later l3
        have fe := h3.at (i := X.length + k) (by omega)
        have fp := h3.at (i := X.length + k - 1) (by omega)
        rw [ge] at fe
        rw [gp] at fp
        repeat' (first | (simp (disch := omega) only [push_cast, seval]) | refine iX ?_ ?_ <;> intros | refine aI (by omega) ?_ | fail)
        refine drawnS_k 15 ?_
        repeat' (first | (simp (disch := omega) only [push_cast, seval, t1, t2, fe, fp]) | refine iX ?_ ?_ <;> intros | refine aI (by omega) ?_ | fail)
        refine ⟨rfl, fun w4 l4 => ⟨by simp (disch := omega) only [push_cast, seval, implies_true, and_self], ?_⟩⟩
        have h4 := h3.later l4
        repeat' (first | (simp (disch := omega) only [push_cast, seval, t1, t2]) | refine iX ?_ ?_ <;> intros | refine aI (by omega) ?_ | fail)
        have mp := h4.mem (i := X.length + k - 1) (by omega)
        have me := h4.mem (i := X.length + k) (by omega)
        rw [gp] at mp
        rw [ge] at me
        refine h4.store (i := X.length + k) (by omega) mp fun w5 h5 c5 => ?_
        repeat' (first | (simp (disch := omega) only [push_cast, seval, t2]) | refine iX ?_ ?_ <;> intros | refine aI (by omega) ?_ | fail)
        refine h5.store (i := X.length + k - 1) (by simp only [List.length_set]; omega) me fun w6 h6 c6 => ?_
        have e6 : ((((X ++ (T ++ [p])) ++ e :: (S2 ++ (R ++ Y))).set (X.length + k) p).set (X.length + k - 1) e) = (X ++ T) ++ e :: ((p :: S2) ++ (R ++ Y)) := by
          have := gsw_near (X ++ T) (S2 ++ (R ++ Y)) p e
          rw [← hcur, hTk] at this
          rw [show X.length + k - 1 = (X ++ T).length by omega]
          unfold sw at this
          rw [ge, show ((X ++ (T ++ [p])) ++ e :: (S2 ++ (R ++ Y)))[(X ++ T).length]! = p by rw [hcur]; exact get_app _ _ _] at this
          simpa using this
        rw [e6] at h6
        have e7 : (X.length : Int) + (k : Int) - 1 = (X.length : Int) + ((k - 1 : Nat) : Int) := by omega
        repeat' (first | (simp (disch := omega) only [push_cast, seval, e7]) | refine iX ?_ ?_ <;> intros | refine aI (by omega) ?_ | refine dq ?_)
        exact ⟨rfl, k - 1, by simp (disch := omega) only [push_cast, seval, e7], ⟨T, p :: S2, by rw [hSS]; simp, by simp at hk; omega, by
          intro s hs'
          rcases List.mem_cons.1 hs' with rfl | hs'
          · rw [hcmp]; exact decide_eq_true hlt2
          · exact hS2 s hs', h6, ((c2.trans (Chg.of_later (l3.trans l4))).trans c5).trans c6⟩, by dsimp only; omega⟩
      · repeat' (first | (simp (disch := omega) only [push_cast, seval]) | refine iX ?_ ?_ <;> intros | refine aI (by omega) ?_ | refine dq ?_)
        intro w3 l3
        repeat' (first | (simp (disch := omega) only [push_cast, seval]) | refine iX ?_ ?_ <;> intros | refine aI (by omega) ?_ | refine dq ?_)
        have e1 : (X.length : Int) + 1 + (i : Int) + 1 = (X.length : Int) + 1 + ((i : Int) + 1) := by omega
        exact ⟨rfl, i + 1, by simp (disch := omega) only [push_cast, seval, e1], ⟨by omega, fin w3 l3 (.inr ⟨T, p, rfl, by rw [hcmp]; exact decide_eq_false hlt2⟩)⟩, by dsimp only; omega⟩
  · have e1 : M.take (i + 1) = M := List.take_of_length_le (by omega)
    have e2 : M.drop (i + 1) = [] := List.drop_eq_nil_of_le (by omega)
    rw [e1] at tS
    rw [e2] at h1
    have hf : ∃ M', Srt glt M' ∧ Stb glt M M' ∧ Sg w1 B B' g c L (X ++ M' ++ Y) ∧ Chg w w1 [g] := ⟨S, sS, tS, by simpa using h1, c1⟩
    repeat' (first | (simp (disch := omega) only [push_cast, seval]) | refine iX ?_ ?_ <;> intros | refine aI (by omega) ?_ | refine dq ?_)
    exact hf
end Go.Proofs.YtnofalhkapmcnaaGreat
end
