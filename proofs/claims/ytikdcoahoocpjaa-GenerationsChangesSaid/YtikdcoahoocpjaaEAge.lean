/-
  The contract of Age. Conditions: the lists are short, their frames and the accessed ones ints of their kind.
-/
import Derived.Test.YtikdcoahoocpjaaECheck
import Derived.Test.YtikdcoahoocpjaaEReg
import Derived.Test.YtikdcoahoocpjaaQ100
namespace Go.Proofs.Ytikdcoahoocpjaa.Q
open Go.Proofs.Ytikdcoahoocpjaa.Sd
open Go.RowKit Go.Shelf Go.Maps Go.Proofs.YtikdcoahoocpjaaW.PrintWords Go.Proofs.YtikdcoahoocpjaaW.PrintLast Go.Proofs.YtikdcoahoocpjaaW.PrintMore
set_option linter.unusedVariables false
set_option linter.unusedSimpArgs false
/-- The accessed frames, checked one after the other: an error, or the map of the hot ones. -/
def scanA (m : List (Int × Int)) : List Int → List (Int × Bool) → Except Int (List (Int × Bool))
  | [], h => .ok h
  | f :: r, h => if (lku m f).isSome = true then (if (lku h f).getD false = true then .error 7 else scanA m r (ins h f true)) else .error 6
/-- Where a frame goes. -/
def toA (h : List (Int × Bool)) (p : Nat × Int) : Nat := if (lku h p.2).getD false = true then 3 else p.1 - 1
def putA (h : List (Int × Bool)) (r : List (List Int)) (p : Nat × Int) : List (List Int) := r.set (toA h p) (r.getD (toA h p) [] ++ [p.2])
def rowsA (h : List (Int × Bool)) (ps : List (Nat × Int)) : List (List Int) := ps.foldl (putA h) (List.replicate 4 [])
def okA (l1 : List Int) : Bool := decide (l1.length ≤ 100000) && l1.all okI
def generations_Age.f (l0 : List (List Int)) (l1 : List Int) : Option (List (List Int) × Int) := (generations_Check.f l0).bind fun t => if t = 0 then (if okA l1 = true then (match scanA (agesL l0) l1 [] with | .error e => some ([], e) | .ok h => some (rowsA h (prs l0), 0)) else none) else some ([], t)

attribute [local go_sem] max2_int min2_int max_two min_two
attribute [local go_sem] Oper.semAt_some
theorem zero4 (w : World) : (zeroValue 4).run Try.prog w = .ok (.bool false) w := by kernel_rfl
theorem blk_row {W W1 : World} {k : Nat} {o : Obj} {row : Option Nat} (h : W.heap[k]? = some o) (hg : W.grownBy W1 row) (hne : some k ≠ row) : W1.heap[k]? = some o := (hg.block k (Array.getElem?_eq_some_iff.1 h).1 hne).trans h
theorem drop_at (l : List Int) (i : Nat) (h : i < l.length) : l.drop i = rd l (i : Int) :: l.drop (i + 1) := by
  rw [List.drop_eq_getElem_cons h]
  unfold rd
  rw [Int.toNat_natCast, List.getD_eq_getElem?_getD, List.getElem?_eq_getElem h]
  rfl
theorem okA_at {l : List Int} (h : okA l = true) : l.length ≤ 100000 ∧ ∀ i : Nat, i < l.length → (Lit.int .i64 (rd l (i : Int))).wf = true := by
  unfold okA at h
  simp only [Bool.and_eq_true, decide_eq_true_eq, List.all_eq_true] at h
  refine ⟨h.1, fun i hi => ?_⟩
  have h2 := h.2 (rd l (i : Int)) (by unfold rd; rw [Int.toNat_natCast, List.getD_eq_getElem?_getD, List.getElem?_eq_getElem hi]; exact List.getElem_mem hi)
  simp only [okI, Bool.and_eq_true, decide_eq_true_eq] at h2
  exact WalkArith.wf_i64 (by omega)
theorem wpIn_lookB {F : Fence} {m0 : Nat} {P : Program} {w : World} {ops : Array Oper} {rest : List Oper} {o : Oper} {a : Act} {Q : Exit → Act → World → Prop} (hg : o.guard = none) (mm x : Operand) (t : TypeId) (hop : o.op = Op.lookup t mm x false)
    (k e : TypeId) (ht : P.underlying t = some (.map k e)) (hk : P.underlying k = some (.int .i64)) (he : P.underlying e = some .bool) (hz : (zeroValue e).run P w = .ok (.bool false) w) (b n : Nat) (m : List (Int × Bool))
    (hm : a.eval mm = .map (some b)) (h : OB P k e w b n m) (key : Int) (hx : a.eval x = .int .i64 key) (hwf : (Lit.int .i64 key).wf = true)
    (hK : wpListIn F m0 P ops Q rest (a.put o.dst (.bool ((lku m key).getD false))) w) :
    wpListIn F m0 P ops Q (o :: rest) a w := by
  obtain ⟨D, h1, h2⟩ := h
  refine wpListIn_plain hg fun K' hK' => ?_
  obtain ⟨v, ps, hrun, hv⟩ := h1.lookup (int_keyed hk) ht hz (plainElem_bool he false) (keyOf_int_mk hk hwf)
  have hat := h2.atD key false
  simp only [encB, ky] at hat
  rw [hat] at hv
  have hvv : v = .bool ((lku m key).getD false) := by
    unfold plainElem at hv
    rw [he] at hv
    cases v <;> simp at hv
    rw [hv.1]
  subst hvv
  unfold Oper.wpIn
  refine ⟨?_, ?_⟩
  · simp [Oper.about, hop]
  · rw [Oper.semAt_plain F _ _ (by rw [hop]; intro c hc'; cases hc')]
    simp [execOp, hop, hm, hx, hrun, Result.andThen]
    exact hK' _ _ hK
/-- What stands while the frames are put in their rows. -/
structure AG (w W : World) (b8 g2 n b13 go co : Nat) (h : List (Int × Bool)) (r : List (List Int)) : Prop where
  c8 : W.heap[b8]? = some (.cells #[.map (some g2)] 54 (0, 0))
  ob : OB Try.prog 3 4 W g2 n h
  c13 : W.heap[b13]? = some (.cells #[.slice (some ⟨go, 0, none⟩) 4 co] 22 (0, 0))
  s : Kd.S (Kd.slice 3 (Kd.int .i64)) 25 W w.heap.size (fun _ => True) (.slice (some ⟨go, 0, none⟩) 4 co) r
theorem AG.grown {w W W1 : World} {b8 g2 n b13 go co : Nat} {h : List (Int × Bool)} {r : List (List Int)} (H : AG w W b8 g2 n b13 go co h r) {row : Option Nat} (hg : W.grownBy W1 row) (hr : ∀ k, row = some k → k ≠ g2 ∧ ∃ o : Obj, W.heap[k]? = some o ∧ o.isCells = false) : AG w W1 b8 g2 n b13 go co h r := by
  have key : ∀ (k : Nat) (cs : Array Value) (t : Nat), W.heap[k]? = some (.cells cs t (0, 0)) → some k ≠ row := by
    intro k cs t hk e
    obtain ⟨_, o, ho, hc⟩ := hr k e.symm
    rw [hk] at ho
    injection ho with ho
    rw [← ho] at hc
    cases hc
  refine ⟨(hg.block b8 (Array.getElem?_eq_some_iff.1 H.c8).1 (key _ _ _ H.c8)).trans H.c8, H.ob.kept hg (fun e => (hr _ e.symm).1 rfl), (hg.block b13 (Array.getElem?_eq_some_iff.1 H.c13).1 (key _ _ _ H.c13)).trans H.c13, ?_⟩
  refine Kd.S_mono (Kd.S_grown (Kd.S_bound H.s) hg (fun k hk => ?_)) (fun _ _ => trivial)
  obtain ⟨_, _, _, q, _, cells, hc⟩ := hk
  exact key _ _ _ hc
theorem AG.x8 {w W : World} {b8 g2 n b13 go co : Nat} {h : List (Int × Bool)} {r : List (List Int)} (H : AG w W b8 g2 n b13 go co h r) : W.cell? ⟨b8, 0, none⟩ = some (.map (some g2)) := (cell_of_box_c H.c8).1
theorem AG.x13 {w W : World} {b8 g2 n b13 go co : Nat} {h : List (Int × Bool)} {r : List (List Int)} (H : AG w W b8 g2 n b13 go co h r) : W.cell? ⟨b13, 0, none⟩ = some (.slice (some ⟨go, 0, none⟩) 4 co) := (cell_of_box_c H.c13).1
/-- The row of a frame, put. -/
theorem AG.put {w W : World} {b8 g2 n b13 go co : Nat} {h : List (Int × Bool)} {r : List (List Int)} (H : AG w W b8 g2 n b13 go co h r) (HB : Below w.heap.size w W) (tt : Nat) (hto : tt < 4) (f : Int) (hl : (r.getD tt []).length ≤ 1000000) :
    ∃ A c A2 c2 w1, W.cell? ⟨go, tt, none⟩ = some (.slice A (r.getD tt []).length c) ∧
      (Builtin.append_ #[25, 25] 25 #[.slice A (r.getD tt []).length c, .slice (some ⟨W.heap.size, 0, none⟩) 1 1]).run Try.prog (W.alloc (.cells #[.int .i64 f] 3)) = .ok (.slice A2 ((r.getD tt []).length + 1) c2) w1 ∧
      (w1.cell? ⟨go, tt, none⟩) = some (.slice A (r.getD tt []).length c) ∧ w1.frozen? ⟨go, tt, none⟩ = false ∧ w1.cell? ⟨b13, 0, none⟩ = some (.slice (some ⟨go, 0, none⟩) 4 co) ∧
      AG w (w1.setCell ⟨go, tt, none⟩ (.slice A2 ((r.getD tt []).length + 1) c2)) b8 g2 n b13 go co h (r.set tt (r.getD tt [] ++ [f])) ∧
      Below w.heap.size w (w1.setCell ⟨go, tt, none⟩ (.slice A2 ((r.getD tt []).length + 1) c2)) ∧ Below w.heap.size W (w1.setCell ⟨go, tt, none⟩ (.slice A2 ((r.getD tt []).length + 1) c2)) ∧ (∀ B, KeepsFrom B W (w1.setCell ⟨go, tt, none⟩ (.slice A2 ((r.getD tt []).length + 1) c2))) := by
  obtain ⟨A, c, A2, c2, w1, h1, h2, h3, h4, h5, h6, h7, h9, h8⟩ := row_put H.s tt hto f hl
  refine ⟨A, c, A2, c2, w1, h1, h2, h3, h4, (cell_of_box_c (h9 _ _ H.c13 (fun _ e => by cases e))).1, ⟨?_, ?_, ?_, h5⟩, h6 _ HB, h6 _ (Below.refl _ _), fun B => ⟨h7, fun k o _ hk ho => ?_⟩⟩
  · exact h8 _ _ H.c8 (fun _ e => by cases e) (fun _ e => by cases e)
  · obtain ⟨D, ⟨es, cl, hm, hrest⟩, hD⟩ := H.ob
    exact ⟨D, ⟨es, cl, h8 _ _ hm (fun _ e => by cases e) (fun _ e => by cases e), hrest⟩, hD⟩
  · exact h8 _ _ H.c13 (fun _ e => by cases e) (fun _ e => by cases e)
  · exact h8 _ _ hk (fun _ e => by rw [e] at ho; cases ho) (fun _ e => by rw [e] at ho; cases ho)
theorem AG.drew {w W : World} {b8 g2 n b13 go co : Nat} {h : List (Int × Bool)} {r : List (List Int)} (H : AG w W b8 g2 n b13 go co h r) : AG w W.drew b8 g2 n b13 go co h r := ⟨H.c8, H.ob, H.c13, H.s⟩
theorem rowsA_snoc (h : List (Int × Bool)) (ps : List (Nat × Int)) (p : Nat × Int) : rowsA h (ps ++ [p]) = putA h (rowsA h ps) p := by simp [rowsA]
theorem putA_len (h : List (Int × Bool)) (r : List (List Int)) (p : Nat × Int) (m t : Nat) (hr : (r.getD t []).length ≤ m) : ((putA h r p).getD t []).length ≤ m + 1 := by
  unfold putA
  rw [List.getD_eq_getElem?_getD, List.getElem?_set]
  split
  · rename_i e
    split
    · subst e; simpa using hr
    · simp
  · rw [← List.getD_eq_getElem?_getD]; omega
theorem foldA_len (h : List (Int × Bool)) (t : Nat) : ∀ (ps : List (Nat × Int)) (r : List (List Int)) (m : Nat), (r.getD t []).length ≤ m → ((ps.foldl (putA h) r).getD t []).length ≤ m + ps.length
  | [], r, m, hr => by simpa using hr
  | p :: ps, r, m, hr => by
    have := foldA_len h t ps (putA h r p) (m + 1) (putA_len h r p m t hr)
    rw [List.foldl_cons, List.length_cons]
    omega
theorem rowsA_len (h : List (Int × Bool)) (ps : List (Nat × Int)) (t : Nat) : ((rowsA h ps).getD t []).length ≤ ps.length := by
  have := foldA_len h t ps (List.replicate 4 []) 0 (by
    rw [List.getD_eq_getElem?_getD, List.getElem?_replicate]
    split <;> simp)
  unfold rowsA
  omega
theorem map_up (l : List (List Int)) : (upK (prs l).length (prs l).length).map (prE l) = prs l := by
  rw [upK_all]
  apply List.ext_getElem
  · simp
  · intro i h1 h2; simp [prE]
theorem generations_Age.calls (A0 : Option Addr) (c0 : Nat) (l0 : List (List Int)) (A1 : Option Addr) (k1 : Nat) (l1 : List Int) (r1 : List (List Int)) (r2 : Int) (w : World) (hr0 : Kd.C (Kd.slice 3 (Kd.int .i64)) w A0 l0.length l0) (hc0 : l0.length ≤ c0) (hr1 : Kd.C (Kd.int .i64) w A1 l1.length l1) (hc1 : l1.length ≤ k1) (h : generations_Age.f l0 l1 = some (r1, r2)) :
    Calls Try.prog 27 #[.slice A0 l0.length c0, .slice A1 l1.length k1] w fun e w' => ∃ v0_ : Value, e = .returned (.tuple #[v0_, .int .i64 r2]) ∧ Kd.S (Kd.slice 3 (Kd.int .i64)) 25 w' w.heap.size (fun _ => True) v0_ r1 ∧ Below w.heap.size w w' := by
  unfold generations_Age.f at h
  replace h := Option.bind_eq_some_iff.mp h
  obtain ⟨t, ht, h⟩ := h
  have HR0 := Aside0.mk hr0
  have HC0 := Aside0.mk hc0
  have HR1 := Aside0.mk hr1
  have HC1 := Aside0.mk hc1
  have HT := Aside0.mk ht
  have HB := Aside0.mk (Below.refl w.heap.size w)
  by_cases h0 : t = 0
  · subst h0
    rw [if_pos rfl] at h
    split at h
    · rename_i hok
      have h4 : l0.length = 4 ∧ okL l0 = true := by
        unfold generations_Check.f at ht
        split at ht
        · rename_i h4
          split at ht
          · rename_i h5; exact ⟨h4, h5⟩
          · cases ht
        · cases ht
      obtain ⟨hlen1, hwf1⟩ := okA_at hok
      have H4 := Aside0.mk h4
      have HW1 := Aside0.mk hwf1
      obtain ⟨X, hX⟩ : ∃ X, X = scanA (agesL l0) l1 [] := ⟨_, rfl⟩
      rw [← hX] at h
      have HX := Aside0.mk hX.symm
      have HH := Aside0.mk h
      clear h hr0 hc0 hr1 hc1 ht h4 hok hwf1 hX
      refine callsIn_wide.1 (callsIn_of_wp_marks (F := Fence.wide) (n := 6) Try.func27 rfl trivial ?_ rfl)
      simp only [Try.ntmps27, List.size_toArray, List.length_cons, List.length_nil, Nat.reduceAdd, Nat.reduceSub, Array.replicate_succ, Array.replicate_zero, List.push_toArray, List.append_toArray, List.nil_append, List.cons_append]
      refine wpIn_wide.2 ?_
      have hmm := @run_makeMap Try.prog
      go_wp2_with (first | (go_at_call 16; refine (generations_Check.calls A0 c0 l0 0 _ HR0.out HC0.out HT.out).mono ?_; rintro e w1 ⟨rfl, hb⟩; have n0_ := Aside0.mk (below_step HB.out hb); clear HB; have HB := n0_; clear n0_ hb) | (go_at_call 33; refine (ages_calls A0 c0 l0 _ (Kd.C_below HR0.out HB.out) H4.out.1 H4.out.2).mono ?_; rintro e w2 ⟨rfl, hom, hb⟩; have HM := Aside0.mk hom; have n0_ := Aside0.mk (below_step HB.out hb); clear HB; have HB := n0_; clear n0_ hb hom))
      clear hmm
      generalize w1.heap.size = bw at *
      obtain ⟨m, hm⟩ : ∃ m, m = agesL l0 := ⟨_, rfl⟩
      rw [← hm] at HX HM
      clear hm
      have HO := Aside0.mk ((OB.made Try.prog 3 4 w2).alloc (.cells #[.map (some w2.heap.size)] 54))
      have H8 : Aside0 (((w2.alloc (.map #[] 0)).alloc (.cells #[.map (some w2.heap.size)] 54)).heap[w2.heap.size + 1]? = some (.cells #[.map (some w2.heap.size)] 54 (0, 0))) := ⟨by
        have := World.alloc_heap_new (w2.alloc (.map #[] 0)) (.cells #[.map (some w2.heap.size)] 54)
        rwa [World.size_alloc] at this⟩
      have n0_ := Aside0.mk ((HM.out.alloc (.map #[] 0)).alloc (.cells #[.map (some w2.heap.size)] 54))
      have n1_ := Aside0.mk ((HB.out.alloc HB.out.size (.map #[] 0)).alloc (by simp; have := HB.out.size; omega) (.cells #[.map (some w2.heap.size)] 54))
      have HG : Aside0 (w.heap.size ≤ w2.heap.size ∧ bw < w2.heap.size) := ⟨HB.out.size, by obtain ⟨es, cl, hq⟩ := HM.out.at_map; exact lt_of_map hq⟩
      clear HM HB
      have HM := n0_
      have HB := n1_
      clear n0_ n1_
      generalize w2.heap.size = g2 at *
      generalize ((w2.alloc (.map #[] 0)).alloc (.cells #[.map (some g2)] 54)) = w3 at *
      go_loopg [27] l1.length (fun kq v27 w' => ∃ (i : Nat) (hh : List (Int × Bool)), v27 = .int .i64 i ∧ i ≤ l1.length ∧ Aside0 (l1.length - i ≤ kq) ∧ Aside0 (scanA m (l1.drop i) hh = X) ∧ Aside0 (OB Try.prog 3 4 w' g2 i hh) ∧ Aside0 (OM Try.prog 3 3 w' bw (prs l0).length m) ∧ Aside0 (w'.heap[g2 + 1]? = some (.cells #[.map (some g2)] 54 (0, 0))) ∧ Aside0 (Below w.heap.size w w'))
      case atStart => exact ⟨0, [], rfl, Nat.zero_le _, ⟨by omega⟩, HX, HO, HM, H8, HB⟩
      case round =>
        clear HB HM HO H8 HX
        obtain ⟨i, hh, rfl, hi, HI, HX, HO, HM, H8, HB⟩ := hrel
        by_cases hlt : i < l1.length
        · have c1 : decide ((i : Int) < (l1.length : Int)) = true := decide_eq_true (by omega)
          have hwf := HW1.out i hlt
          have HD := Aside0.mk (drop_at l1 i hlt)
          obtain ⟨ad, e1, hy0⟩ := Kd.at_int HR1.out (i : Int) (by omega) (by omega)
          subst e1
          have hy := (HB.out.cell (World.block_lt_of_cell? w _ hy0)).trans hy0
          rw [Int.toNat_natCast] at hy
          obtain ⟨x, hx⟩ : ∃ x, x = rd l1 (i : Int) := ⟨_, rfl⟩
          rw [← hx] at hwf hy HD
          have hx8 := (cell_of_box_c H8.out).1
          clear hy0 hx
          have HS : Aside0 (scanA m (x :: l1.drop (i + 1)) hh = X) := ⟨by rw [← HD.out]; exact HX.out⟩
          clear HX HD
          cases hlk : (lku m x).isSome with
          | false =>
            have hX2 : X = .error 6 := by rw [← HS.out]; simp [scanA, hlk]
            subst hX2
            have hh1 := HH.out
            simp only [Option.some.injEq, Prod.mk.injEq] at hh1
            obtain ⟨rfl, rfl⟩ := hh1
            go_wp2_with (first | ((with_reducible refine gate_dst (N := 34) rfl ?_); at_lookup; refine wp_look_ok rfl _ _ 46 rfl 3 3 Try.underlying46 Try.underlying3 Try.underlying3 (zero3 _) bw _ _ rfl HM.out x rfl hwf ?_; rw [hlk]))
            exact ⟨_, results_tmp2 rfl _ _ _, _, rfl, Kd.S_nil _ _ _ _ _, HB.out⟩
          | true =>
            cases hlb : (lku hh x).getD false with
            | true =>
              have hX2 : X = .error 7 := by rw [← HS.out]; simp [scanA, hlk, hlb]
              subst hX2
              have hh1 := HH.out
              simp only [Option.some.injEq, Prod.mk.injEq] at hh1
              obtain ⟨rfl, rfl⟩ := hh1
              go_wp2_with (first | ((with_reducible refine gate_dst (N := 34) rfl ?_); at_lookup; refine wp_look_ok rfl _ _ 46 rfl 3 3 Try.underlying46 Try.underlying3 Try.underlying3 (zero3 _) bw _ _ rfl HM.out x rfl hwf ?_; rw [hlk]) | ((with_reducible refine gate_dst (N := 41) rfl ?_); at_lookup; refine wp_lookB rfl _ _ 54 rfl 3 4 Try.underlying54 Try.underlying3 Try.underlying4 (zero4 _) g2 _ _ rfl HO.out x rfl hwf ?_; rw [hlb]))
              exact ⟨_, results_tmp2 rfl _ _ _, _, rfl, Kd.S_nil _ _ _ _ _, HB.out⟩
            | false =>
              have HS2 : Aside0 (scanA m (l1.drop (i + 1)) (ins hh x true) = X) := ⟨by rw [← HS.out]; simp [scanA, hlk, hlb]⟩
              clear HS
              go_wp2_with (first | ((with_reducible refine gate_dst (N := 34) rfl ?_); at_lookup; refine wp_look_ok rfl _ _ 46 rfl 3 3 Try.underlying46 Try.underlying3 Try.underlying3 (zero3 _) bw _ _ rfl HM.out x rfl hwf ?_; rw [hlk]) | ((with_reducible refine gate_dst (N := 41) rfl ?_); at_lookup; refine wp_lookB rfl _ _ 54 rfl 3 4 Try.underlying54 Try.underlying3 Try.underlying4 (zero4 _) g2 _ _ rfl HO.out x rfl hwf ?_; rw [hlb]) | (at_mapUpdate; refine wp_insB rfl _ _ _ 54 rfl 3 4 Try.underlying54 Try.underlying3 Try.underlying4 g2 _ _ rfl HO.out (by omega) x true rfl rfl hwf ?_; intro w5 ho hg; have n0_ := Aside0.mk ho; have n1_ := Aside0.mk (HM.out.kept hg (by have := HG.out.2; intro e; injection e; omega)); have n2_ := Aside0.mk (blk_row H8.out hg (by intro e; injection e; omega)); have n3_ := Aside0.mk (HB.out.grown hg HB.out.size (fun k e => by cases e; exact HG.out.1)); clear HO HM H8 HB ho hg; have HO := n0_; have HM := n1_; have H8 := n2_; have HB := n3_; clear n0_ n1_ n2_ n3_))
              go_roundg (gk - 1)
              case measure => have := HI.out; omega
              case rel => exact ⟨i + 1, ins hh x true, by simp, by omega, ⟨by have := HI.out; omega⟩, HS2, HO, HM, H8, HB⟩
        · have c1 : decide ((i : Int) < (l1.length : Int)) = false := decide_eq_false (by omega)
          obtain rfl : i = l1.length := by omega
          have hX2 : X = .ok hh := by rw [← HX.out, List.drop_length]; rfl
          subst hX2
          have hh1 := HH.out
          simp only [Option.some.injEq, Prod.mk.injEq] at hh1
          obtain ⟨rfl, rfl⟩ := hh1
          clear HX HM
          have hx8 := (cell_of_box_c H8.out).1
          go_wp2_with (first | (go_at_call 14; refine (generations_New.calls (List.replicate 4 []) _ (by rfl)).mono ?_; rintro e w5 ⟨v5, rfl, ho, hb⟩; obtain ⟨go, co, e5, _⟩ := Kd.S_form ho (by simp); rw [List.length_replicate] at e5; subst e5; have n0_ := Aside0.mk (Kd.S_lower ho HB.out.size); have n1_ := Aside0.mk (HO.out.below hb); have n2_ := Aside0.mk ((hb.block _ (Array.getElem?_eq_some_iff.1 H8.out).1).trans H8.out); have n3_ := Aside0.mk (below_step HB.out hb); clear HO H8 HB ho hb hx8; have HO := n1_; have HS := n0_; have H8 := n2_; have HB := n3_; clear n0_ n1_ n2_ n3_) | (go_at_call 31; refine (callsIn_wide.1 (all_in Fence.wide 5 trivial rfl _ _ _ _)).mono ?_; rintro e w' ⟨rfl, rfl⟩))
          have e13 := World.alloc_heap_new w5 (.cells #[.slice (some ⟨go, 0, none⟩) 4 co] 22)
          have eN := cell_new_c (w5.alloc (.cells #[.slice (some ⟨go, 0, none⟩) 4 co] 22)) (.slice A0 l0.length c0) 22
          simp only [World.size_alloc] at eN
          have hB5 : Below w.heap.size w ((w5.alloc (.cells #[.slice (some ⟨go, 0, none⟩) 4 co] 22)).alloc (.cells #[.slice A0 l0.length c0] 22)) := (HB.out.alloc HB.out.size _).alloc (by simp; have := HB.out.size; omega) _
          have hg5 := (World.grownBy_alloc w5 (.cells #[.slice (some ⟨go, 0, none⟩) 4 co] 22) none)
          have hg6 := World.grownBy.trans hg5 (World.grownBy_alloc (w5.alloc (.cells #[.slice (some ⟨go, 0, none⟩) 4 co] 22)) (.cells #[.slice A0 l0.length c0] 22) none)
          have hA5 : AG w ((w5.alloc (.cells #[.slice (some ⟨go, 0, none⟩) 4 co] 22)).alloc (.cells #[.slice A0 l0.length c0] 22)) (g2 + 1) g2 l1.length w5.heap.size go co hh (List.replicate 4 []) := by
            refine ⟨blk_row H8.out hg6 (by simp), HO.out.kept hg6 (by simp), ?_, ?_⟩
            · exact blk_row e13 (World.grownBy_alloc _ _ none) (by simp)
            · exact Kd.S_mono (Kd.S_grown (Kd.S_bound HS.out) hg6 (fun k hk => by simp)) (fun _ _ => trivial)
          have HG6 : Aside0 (g2 < ((w5.alloc (.cells #[.slice (some ⟨go, 0, none⟩) 4 co] 22)).alloc (.cells #[.slice A0 l0.length c0] 22)).heap.size) := ⟨by have := (Array.getElem?_eq_some_iff.1 hA5.c8).1; omega⟩
          have hgo : w.heap.size ≤ go := Kd.S_base HS.out go (by simp [Value.ownBlock])
          refine (wpIn_wide (n := 6)).1 ?_
          refine wpIn_rangeFunc_ownG rfl (by omega) (gf := 42) (lb := #[.pointer (some ⟨w5.heap.size + 1, 0, none⟩)]) rfl trivial (enters_of Try.func42 (by kernel_rfl) rfl)
            (all_stops Fence.wide 5 trivial rfl (by omega) (w5.heap.size + 1) w A0 c0 l0 HR0.out (by have := H4.out; omega) (fun i => by have := (okL_at H4.out.2).1 i; omega) _ (by simp) hB5 eN.1) belowK_t (belowK_b (by have := HB.out.size; simp; omega)) (Below.refl _ _) (fun _ => rfl)
            (fun pre W => AG w W (g2 + 1) g2 l1.length w5.heap.size go co hh (rowsA hh (pre.map (prE l0))) ∧ Below w.heap.size w W)
            (fun _ _ _ => False)
            (OwnFrom.and (fun s A B row hs hg hr => hs.grown hg (fun k e => ⟨by have := (hr k e).1; have := HG6.out; omega, (hr k e).2⟩)) (ownFrom_below (Nat.le_refl _) (by simp; have := HB.out.size; omega)))
            (fun _ _ _ _ _ hs _ _ => hs)
            ⟨hA5, hB5⟩
            (fun x => { tmps := #[.slice A0 l0.length c0, .slice A1 l1.length k1, undef, undef, u4, u5, .int .i64 0,
          .map (some bw), .pointer (some { block := g2 + 1, off := 0 }), undef, u10, u11, u12,
          .pointer (some { block := w5.heap.size, off := 0 }), .int .i64 ((prE l0 x).1 : Int), .int .i64 (prE l0 x).2, undef, .slice A0 l0.length c0,
          .int .i64 0, .int .i64 0, .bool false, undef, .slice A0 l0.length c0,
          .map (some bw), .map (some g2), .slice A1 l1.length k1, .int .i64 l1.length,
          .int .i64 l1.length, .bool false, u29, u30, u31, u32, u33, u34, u35, u36, u37, u38, u39,
          u40, u41, u42, u43, u44, .slice (some { block := go, off := 0 }) 4 co, .slice A0 l0.length c0, .func (.func 42) #[] #[.pointer (some ⟨w5.heap.size + 1, 0, none⟩)], .int .i64 ((prE l0 x).1 : Int), .int .i64 (prE l0 x).2, undef, undef, undef, undef, undef, undef, undef, undef, undef, undef, undef, undef, undef, undef, undef, undef, undef], defers := [] }) ?assign ?body ?done ?stop
          case assign =>
            intro lp x W K hK
            unfold encP
            gi_wp2
            exact hK
          case body =>
            rintro lp pre x W ⟨HA, hB⟩ hlt
            have hq8 := HA.x8
            have hq13 := HA.x13
            obtain ⟨hx1, hx2⟩ := prE_mem l0 x
            have hwf := (okL_at H4.out.2).2 _ _ hx2
            obtain ⟨a, ha⟩ : ∃ a, a = (prE l0 x).1 := ⟨_, rfl⟩
            obtain ⟨f, hf⟩ : ∃ f, f = (prE l0 x).2 := ⟨_, rfl⟩
            rw [← ha] at hx1 hx2
            rw [← hf] at hx2 hwf
            rw [← ha, ← hf]
            have HA1 := Aside0.mk ha
            have HF1 := Aside0.mk hf
            clear ha hf
            have hmx : (if 0 < wrap64 ((a : Int) - 1) then wrap64 ((a : Int) - 1) else 0) = (((a - 1 : Nat)) : Int) := by
              have ha4 : a < 4 := by have := H4.out.1; omega
              have hw : wrap64 ((a : Int) - 1) = (a : Int) - 1 := by unfold wrap64; omega
              rw [hw]; split <;> omega
            have HLEN : Aside0 (∀ tt, ((rowsA hh (pre.map (prE l0))).getD tt []).length ≤ 1000000) := ⟨fun tt => by
              have h1 := rowsA_len hh (pre.map (prE l0)) tt
              have h2 := prs_le H4.out.2 H4.out.1
              rw [List.length_map] at h1
              omega⟩
            cases hlb : (lku hh f).getD false with
            | true =>
              gi_wp2_with (first | (gi_at_lookup; refine wpIn_lookB rfl _ _ 54 rfl 3 4 Try.underlying54 Try.underlying3 Try.underlying4 (zero4 _) g2 _ _ rfl HA.ob f rfl hwf ?_; rw [hlb]))
              obtain ⟨A, c, A2, c2, w1', h1, h2, h3, h4, h9, HA', hB', hB'', hKF⟩ := AG.put (AG.drew HA) (below_drew1 hB) (3) (by omega) f (HLEN.out _)
              refine region_put (bx := ⟨w5.heap.size, 0, none⟩) (go := go) (tt := 3) (nn := 4) (co := co) (wf := w1'.setCell ⟨go, 3, none⟩ (.slice A2 (((rowsA hh (pre.map (prE l0))).getD (3) []).length + 1) c2)) (w1 := w1') ⟨rfl, ⟨_, rfl, rfl, rfl, rfl, rfl, by decide, by decide⟩, ⟨_, rfl, rfl, rfl, rfl, rfl, by decide, by decide⟩, ⟨_, rfl, rfl, rfl, rfl, rfl, by decide, by decide⟩, ⟨_, rfl, rfl, rfl, rfl, rfl, by decide, by decide⟩, ⟨_, rfl, rfl, rfl, rfl, rfl, by decide, by decide⟩, ⟨_, rfl, rfl, rfl, rfl, rfl, by decide, by decide⟩, ⟨_, rfl, rfl, rfl, rfl, rfl, by decide, by decide⟩, ⟨_, rfl, rfl, rfl, rfl, rfl, by decide, by decide⟩, ⟨_, rfl, rfl, rfl, rfl, rfl, by decide, by decide, rfl⟩, ⟨_, rfl, rfl, rfl, rfl, rfl, by decide, by decide⟩, ⟨_, rfl, rfl, rfl, rfl, by decide, by decide⟩⟩ (by kernel_rfl) (Nat.le_of_ble_eq_true rfl) rfl rfl rfl (by omega) hq13 (cell_alloc_c _ hq13) h9 h1 (cell_alloc_c _ h1) h2 h3 h4 rfl ?_
              intro a'
              refine ⟨⟨(hKF 0).1, (hKF _).2⟩, (below_drew1 (Below.refl _ W)).trans hB'', ?_, hB'⟩
              rw [List.map_append, List.map_singleton, rowsA_snoc]
              have ht : toA hh (prE l0 x) = 3 := by unfold toA; rw [← HF1.out, ← HA1.out, hlb]; rfl
              unfold putA
              rw [ht, ← HF1.out]
              exact HA'
            | false =>
              gi_wp2_with (first | (gi_at_lookup; refine wpIn_lookB rfl _ _ 54 rfl 3 4 Try.underlying54 Try.underlying3 Try.underlying4 (zero4 _) g2 _ _ rfl HA.ob f rfl hwf ?_; rw [hlb]))
              obtain ⟨A, c, A2, c2, w1', h1, h2, h3, h4, h9, HA', hB', hB'', hKF⟩ := AG.put (AG.drew HA) (below_drew1 hB) (a - 1) (by have := H4.out.1; omega) f (HLEN.out _)
              refine region_put (bx := ⟨w5.heap.size, 0, none⟩) (go := go) (tt := a - 1) (nn := 4) (co := co) (wf := w1'.setCell ⟨go, a - 1, none⟩ (.slice A2 (((rowsA hh (pre.map (prE l0))).getD (a - 1) []).length + 1) c2)) (w1 := w1') ⟨rfl, ⟨_, rfl, rfl, rfl, rfl, rfl, by decide, by decide⟩, ⟨_, rfl, rfl, rfl, rfl, rfl, by decide, by decide⟩, ⟨_, rfl, rfl, rfl, rfl, rfl, by decide, by decide⟩, ⟨_, rfl, rfl, rfl, rfl, rfl, by decide, by decide⟩, ⟨_, rfl, rfl, rfl, rfl, rfl, by decide, by decide⟩, ⟨_, rfl, rfl, rfl, rfl, rfl, by decide, by decide⟩, ⟨_, rfl, rfl, rfl, rfl, rfl, by decide, by decide⟩, ⟨_, rfl, rfl, rfl, rfl, rfl, by decide, by decide⟩, ⟨_, rfl, rfl, rfl, rfl, rfl, by decide, by decide, rfl⟩, ⟨_, rfl, rfl, rfl, rfl, rfl, by decide, by decide⟩, ⟨_, rfl, rfl, rfl, rfl, by decide, by decide⟩⟩ (by kernel_rfl) (Nat.le_of_ble_eq_true rfl) rfl rfl rfl (by have := H4.out.1; omega) hq13 (cell_alloc_c _ hq13) h9 h1 (cell_alloc_c _ h1) h2 h3 h4 rfl ?_
              intro a'
              refine ⟨⟨(hKF 0).1, (hKF _).2⟩, (below_drew1 (Below.refl _ W)).trans hB'', ?_, hB'⟩
              rw [List.map_append, List.map_singleton, rowsA_snoc]
              have ht : toA hh (prE l0 x) = a - 1 := by unfold toA; rw [← HF1.out, ← HA1.out, hlb]; rfl
              unfold putA
              rw [ht, ← HF1.out]
              exact HA'
          case done =>
            rintro D ys W hD rfl ⟨HA, hB⟩ hK
            have hq13 := HA.x13
            go_wp2
            refine ⟨by simp, .inl ⟨_, _, rfl, run_takeDeferred hK, ?_⟩⟩
            have hA2 := HA.grown (grownBy_putObj' W D (.deferred none)) (fun k e => by cases e; exact ⟨by have := HG6.out; omega, _, hK, rfl⟩)
            refine ⟨_, results_tmp2 rfl _ _ _, _, rfl, ?_, hB.trans (belowK_b (w := w) (Nat.le_refl _) W D _ _ (by have := HB.out.size; simp at hD; omega) hK rfl rfl)⟩
            have hs := hA2.s
            rw [map_up] at hs
            exact hs
          case stop =>
            rintro D c pre W _ _ h _
            exact h.elim
    · cases h
  · rw [if_neg h0] at h
    simp only [Option.some.injEq, Prod.mk.injEq] at h
    obtain ⟨rfl, rfl⟩ := h
    have hb0 : (t != 0) = true := bne_iff_ne.mpr h0
    clear hr0 hc0 hr1 hc1 ht
    go_enter Try.func27, Try.ntmps27
    go_wp2_with (first | (go_at_call 16; refine (generations_Check.calls A0 c0 l0 t _ HR0.out HC0.out HT.out).mono ?_; rintro e w1 ⟨rfl, hb⟩; have n0_ := Aside0.mk (below_step HB.out hb); clear HB; have HB := n0_; clear n0_ hb))
    go_ret2
    exact ⟨_, rfl, Kd.S_nil _ _ _ _ _, HB.out⟩
end Go.Proofs.Ytikdcoahoocpjaa.Q
