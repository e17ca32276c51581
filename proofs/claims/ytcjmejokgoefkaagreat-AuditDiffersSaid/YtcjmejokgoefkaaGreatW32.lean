import Derived.Test.YtcjmejokgoefkaaGreatW31
import Derived.Deep.DeepCutAuto
import Derived.Deep.CutBlock
namespace Go.Proofs.YtcjmejokgoefkaaGreat
open Go.RowKit
set_option linter.unusedSimpArgs false
set_option linter.unusedVariables false
theorem run_ld25' (w : World) (g : Nat) (p : Pg) (h : w.heap[g]? = some (.cells (pgA p) 32 (0, 0))) : (ldv 30 ⟨g, 2, none⟩).run Tryz.prog w = .ok (.agg (clA p.cell)) w := run_ld25 w g p (rowAt_of h)
theorem two_mem {c B base : Nat} {w0 W : World} {L : Ents} {va vb : Value} {na nb : Nat} {xs ys : List Value} (h : Two c B base w0 L va na xs vb nb ys W) (g : Nat) (a : Array Value) (t : TypeId) (hm : (g, a, t) ∈ L) : W.heap[g]? = some (.cells a t (0, 0)) := (h.sk.mem _ hm).2
theorem own_form {w : World} {base n size : Nat} {e : TypeId} {v : Value} {xs : List Value} (h : w.ownsRow base e size v n xs) : ∃ a cap, v = .slice a n cap ∧ (n = 0 ∨ ∃ g, a = some ⟨g, 0, none⟩) := by
  rcases h.2 with ⟨rfl, h0⟩ | ⟨g, cap, cur, rfl, _⟩
  · exact ⟨none, 0, by rw [h0], .inl h0⟩
  · exact ⟨some ⟨g, 0, none⟩, cap, rfl, .inr ⟨g, rfl⟩⟩
theorem wpList_append_empty {P : Program} {w : World} {ops : Array Oper} {rest : List Oper} {o : Oper} {a : Act} {Q : Exit → Act → World → Prop} (hgd : o.guard = none) (s x : Operand) (t : TypeId)
    (ho : o.op = .call { callee := .builtin .append, args := #[s, x], argTypes := #[t, t] }) (e : TypeId) (i : TypeInfo) (ht : P.underlying t = some (.slice e)) (hi : P.info? e = some i)
    (hs : a.eval s = .slice none 0 0) (ad : Option Addr) (c : Nat) (hx : a.eval x = .slice ad 0 c)
    (h : wpList P ops Q rest (a.put o.dst (.slice none 0 0)) w) : wpList P ops Q (o :: rest) a w := by
  refine wpList_plain hgd fun K hK => ?_
  have hrun : (Builtin.append_ #[t, t] o.type #[.slice none 0 0, .slice ad 0 c]).run P w = .ok (.slice none 0 0) w := by
    cases ad <;> simp [Builtin.append_, run_underlying ht, sizeOf, typeInfo, hi, Builtin.lenOf, Builtin.firstCells, storeCells, loadCells, loadCellsFrom]
  unfold Oper.wp
  simp [execOp, ho, resolve, invoke, builtin, hs, hx, hrun, Result.andThen]
  exact hK _ _ h
theorem own_weak {W : World} {base e size n : Nat} {v : Value} {zs : List Value} (h : W.ownsRow base e size v n zs) : W.ownsRow 0 e size v n zs := by
  refine ⟨h.1, ?_⟩
  rcases h.2 with hn | ⟨g, cap, cur, e, hb, rest⟩
  · exact .inl hn
  · exact .inr ⟨g, cap, cur, e, Nat.zero_le _, rest⟩
theorem own_rows {W : World} {base g k cap : Nat} {gs : List (Nat → Cl)} {xs : List Value} (h : W.ownsRow base 30 32 (.slice (some ⟨g, 0, none⟩) k cap) k xs) (h1 : k = gs.length) (h2 : xs = flatR gs) : RowsAt W (.slice (some ⟨g, 0, none⟩) k cap) gs := by
  subst h1 h2
  exact own_weak h
theorem flatR_oneL (fs : List (Nat → Cl)) : ∀ u ∈ flatR fs, u.oneCell' = true := by
  intro u hu
  obtain ⟨f, -, hf⟩ := List.mem_flatMap.1 hu
  exact clA_oneL f u hf
def Df.flip (x : Df) : Df := ⟨x.id, x.slot, x.got, x.want⟩
theorem clEq_symm (a b : Cl) : clEq a b = clEq b a := by
  unfold clEq
  rw [Bool.beq_comm, show (a.data.toList == b.data.toList) = (b.data.toList == a.data.toList) from BEq.comm]
theorem dlS_flip (id : Nat) (f g : Nat → Cl) : ∀ j, dlS id g f j = (dlS id f g j).map Df.flip
  | 0 => rfl
  | j + 1 => by
    unfold dlS
    rw [dlS_flip id f g j, List.map_append, clEq_symm]
    split <;> rfl
theorem dlK_flip (fs gs : List (Nat → Cl)) : ∀ k, dlK gs fs k = (dlK fs gs k).map Df.flip
  | 0 => rfl
  | k + 1 => by
    unfold dlK
    rw [dlK_flip fs gs k, dlS_flip, List.map_append]
theorem dlS_refl (id : Nat) (f : Nat → Cl) : ∀ j, dlS id f f j = []
  | 0 => rfl
  | j + 1 => by
    unfold dlS
    rw [dlS_refl id f j, clEq_refl]
    rfl
theorem dlK_more (fs gs : List (Nat → Cl)) (h : Nat → Cl) : ∀ k, k ≤ gs.length → dlK fs (gs ++ [h]) k = dlK fs gs k
  | 0, _ => rfl
  | k + 1, hk => by
    have e : rowL (gs ++ [h]) k = rowL gs k := by
      unfold rowL
      rw [List.getD_eq_getElem?_getD, List.getD_eq_getElem?_getD, List.getElem?_append_left (by omega)]
    unfold dlK
    rw [dlK_more fs gs h k (by omega), e]
theorem dl_same (fs gs : List (Nat → Cl)) (h : gs.length = fs.length) : dlK gs fs fs.length = (dlK fs gs fs.length).map Df.flip ∧ dlK fs (gs ++ [zR]) (max fs.length (gs ++ [zR]).length) = dlK fs gs fs.length := by
  refine ⟨dlK_flip fs gs _, ?_⟩
  rw [List.length_append, List.length_singleton, h, Nat.max_eq_right (by omega)]
  have e : rowL (gs ++ [zR]) fs.length = zR := by
    unfold rowL
    rw [List.getD_eq_getElem?_getD, List.getElem?_append_right (by omega), h, Nat.sub_self]
    rfl
  show dlK fs (gs ++ [zR]) fs.length ++ dlS fs.length (rowL fs fs.length) (rowL (gs ++ [zR]) fs.length) 16 = _
  rw [e, rowL_out (Nat.le_refl _), dlS_refl, List.append_nil, dlK_more _ _ _ _ (by omega)]
theorem own_below {w w' : World} {base : Nat} {e : TypeId} {size : Nat} {v : Value} {n : Nat} {xs : List Value} (h : w.ownsRow base e size v n xs) (hb : Below w.heap.size w w') : w'.ownsRow base e size v n xs := own_blk h fun k _ hk => hb.block k hk
structure Fin3 (w0 : World) (v15 v16 v17 : Value) (n : Nat) (d : List Df) (W : World) : Prop where
  o15 : W.ownsRow 0 40 6 v15 n (flatD d)
  o16 : W.ownsRow 0 40 6 v16 n (flatD (d.map Df.flip))
  o17 : W.ownsRow 0 40 6 v17 n (flatD d)
  below : Below w0.heap.size w0 W
theorem Fin3.drewN {w0 W : World} {v15 v16 v17 : Value} {n : Nat} {d : List Df} (h : Fin3 w0 v15 v16 v17 n d W) (m : Nat) : Fin3 w0 v15 v16 v17 n d (W.drewN m) :=
  ⟨h.o15, h.o16, h.o17, below_drewN h.below _⟩
theorem flatD_get : ∀ (d : List Df) (k j : Nat) (x : Df), d[k]? = some x → j < 6 → (flatD d)[k * 6 + j]? = (d6 x)[j]?
  | [], k, j, x, h, _ => by simp at h
  | y :: d, 0, j, x, h, hj => by
    obtain rfl : y = x := by simpa using h
    rw [show flatD (y :: d) = d6 y ++ flatD d from List.flatMap_cons, Nat.zero_mul, Nat.zero_add, List.getElem?_append_left (by simp [d6]; omega)]
  | y :: d, k + 1, j, x, h, hj => by
    have ih := flatD_get d k j x (by simpa using h) hj
    rw [show flatD (y :: d) = d6 y ++ flatD d from List.flatMap_cons, List.getElem?_append_right (by simp [d6]; omega), show (k + 1) * 6 + j - (d6 y).length = k * 6 + j by simp [d6]; omega, ih]
/-- A difference lies in a block. -/
def DfAt (W : World) (g o : Nat) (x : Df) : Prop := W.cell? ⟨g, o, none⟩ = some (.int .i64 (x.id : Int)) ∧ W.cell? ⟨g, o + 1, none⟩ = some (.int .i64 (x.slot : Int)) ∧ W.cell? ⟨g, o + 2, none⟩ = some (.bool x.want.set) ∧
  W.cell? ⟨g, o + 3, none⟩ = some (.string x.want.data) ∧ W.cell? ⟨g, o + 4, none⟩ = some (.bool x.got.set) ∧ W.cell? ⟨g, o + 5, none⟩ = some (.string x.got.data)
theorem dfAt {W : World} {base g n cap : Nat} {e : TypeId} {d : List Df} (h : W.ownsRow base e 6 (.slice (some ⟨g, 0, none⟩) n cap) n (flatD d)) {k : Nat} (hk : k < n) {x : Df} (hx : d[k]? = some x) : DfAt W g (k * 6) x := by
  have c : ∀ j, j < 6 → W.cell? ⟨g, k * 6 + j, none⟩ = (d6 x)[j]? := fun j hj => by
    rw [h.cellAt _ (by omega), flatD_get d k j x hx hj]
  exact ⟨c 0 (by omega), c 1 (by omega), c 2 (by omega), c 3 (by omega), c 4 (by omega), c 5 (by omega)⟩
theorem Fin3.cells {w0 W : World} {g15 g16 g17 n c15 c16 c17 k : Nat} {d : List Df} (h : Fin3 w0 (.slice (some ⟨g15, 0, none⟩) n c15) (.slice (some ⟨g16, 0, none⟩) n c16) (.slice (some ⟨g17, 0, none⟩) n c17) n d W) (hn : n = d.length) (hk : k < n) :
    ∃ x : Df, DfAt W g15 (k * 6) x ∧ DfAt W g16 (k * 6) x.flip ∧ DfAt W g17 (k * 6) x := by
  have hx : d[k]? = some (d[k]'(by omega)) := List.getElem?_eq_getElem (by omega)
  exact ⟨_, dfAt h.o15 hk hx, dfAt h.o16 hk (by rw [List.getElem?_map, hx]; rfl), dfAt h.o17 hk hx⟩
@[go_sem ↓ high] theorem bop38n (x y : Value) : binOp .neq 38 x y = bop .neq 38 x y := bop_eq _ _ _ _
@[go_sem] theorem run_bop38s (w : World) (a b : Int) : (bop .neq 38 (.agg #[.int .i64 a, .int .i64 b]) (.agg #[.int .i64 a, .int .i64 b])).run Tryz.prog w = .ok (.bool false) w := by
  have h : (Op.equalIn (9998 + 2) 38 (.agg #[.int .i64 a, .int .i64 b]) (.agg #[.int .i64 a, .int .i64 b])).run Tryz.prog w = .ok true w := by simp [go_sem]
  rw [← bop_eq, run_neq_struct, h]; rfl
@[go_sem ↓ high] theorem bop40n (x y : Value) : binOp .neq 40 x y = bop .neq 40 x y := bop_eq _ _ _ _
@[go_sem] theorem run_bop40s (w : World) (a b : Int) (c e : Bool) (s t : ByteArray) : (bop .neq 40 (.agg #[.int .i64 a, .int .i64 b, .bool c, .string s, .bool e, .string t]) (.agg #[.int .i64 a, .int .i64 b, .bool c, .string s, .bool e, .string t])).run Tryz.prog w = .ok (.bool false) w := by
  have h : (Op.equalIn (9997 + 3) 40 (.agg #[.int .i64 a, .int .i64 b, .bool c, .string s, .bool e, .string t]) (.agg #[.int .i64 a, .int .i64 b, .bool c, .string s, .bool e, .string t])).run Tryz.prog w = .ok true w := by simp [go_sem]
  rw [← bop_eq, run_neq_struct, h]; rfl
theorem clEq_same (a : Bool) (s : ByteArray) : clEq ⟨a, s⟩ ⟨a, s⟩ = true := clEq_refl _
attribute [go_sem] clEq_same clEq_refl
theorem cell_there {w : World} {base g cap : Nat} {e : TypeId} {gs : List (Nat → Cl)} (h : w.ownsRow base e 32 (.slice (some ⟨g, 0, none⟩) gs.length cap) gs.length (flatR gs)) (r s : Nat) (hr : r < gs.length) (hs : s < 16) :
    w.frozen? ⟨g, r * 32 + s * 2, none⟩ = false ∧ w.frozen? ⟨g, r * 32 + s * 2 + 1, none⟩ = false ∧ w.cell? ⟨g, r * 32 + s * 2, none⟩ = some (.bool (rowL gs r s).set) ∧ w.cell? ⟨g, r * 32 + s * 2 + 1, none⟩ = some (.string (rowL gs r s).data) := by
  refine ⟨h.frozenAt _, h.frozenAt _, ?_, ?_⟩
  · rw [h.cellAt _ (by omega), Nat.mul_comm r 32, flatR_get gs r (s * 2) hr (by omega), clA_s _ s hs]
  · rw [h.cellAt _ (by omega), Nat.add_assoc, Nat.mul_comm r 32, flatR_get gs r (s * 2 + 1) hr (by omega), clA_d _ s hs]
theorem wpAnyH_take2 {P : Program} {md : Region.Mode} {ops : Array Oper} {Q : Exit → Act → World → Prop} {S : World → Prop} {i : Nat} {oi : Oper} {v : Value} {fuel : Nat} {listed listed' : Array Bool} {a : Act} {w : World} (d : Option Tmp) (hi : ops[i]? = some oi)
    (hs : Region.noSelect ops = true) (hf : Region.free md ops listed i = true) (hr : (Region.ready md ops listed).contains i = true)
    (hQ : ∀ c a w, Q (.panic c) (a.put oi.dst v) w → Q (.panic c) a w) (hd : oi.dst = d) (hl : listed.setIfInBounds i true = listed') (hy : YieldsIf P ops S oi v a) (hS : S w)
    (h : wpAnyH P md ops Q S fuel listed' (a.put d v) w) : wpAnyH P md ops Q S (fuel + 1) listed a w := by
  subst hd; subst hl
  exact wpAnyH_take hi hs hf hr hQ hy hS h
theorem wpAnyH_name {P : Program} {md : Region.Mode} {ops : Array Oper} {Q : Exit → Act → World → Prop} {S : World → Prop} {m : Nat} {listed : Array Bool} {a : Act} {w : World} (n : Nat) (listed' : Array Bool) (hn : m = n) (hl : listed = listed')
    (h : wpAnyH P md ops Q S n listed' a w) : wpAnyH P md ops Q S m listed a w := by
  subst hl; subst hn
  exact h
set_option maxHeartbeats 8000000 in
set_option maxRecDepth 100000 in
theorem differs3 (a : Option Addr) (n cap : Nat) (w : World) (h : IsBytes w a n cap) : Calls Tryz.prog 3 #[.slice a n cap] w fun e w' => e = .returned (.bool true) ∧ Below w.heap.size w w' := by
  go_enter Tryz.func3, Tryz.ntmps3
  go_wp2_with fail
  refine (awake4 _).mono ?_
  rintro e w1 ⟨rfl, hb1⟩
  have Q0 : Pre w.heap.size w [] w1 := (Pre.nil w).step hb1
  have H := Hd.mk (h.below' Q0.below)
  have HQ := Hd.mk Q0
  clear h hb1 Q0
  go_wp2_with fail
  refine (new_any a n cap 300 _ (by omega) (by omega) H.out).mono ?_
  rintro e w2 ⟨c, hc, hC, rfl, hb2⟩
  have HT := Hd.mk (Two.mk (base := w2.heap.size) (va := .slice none 0 0) (vb := .slice none 0 0) (HQ.out.sk hb2 hC hc) hC.lt (Nat.le_refl _) (World.ownsRow_nil _ _ _ _) (World.ownsRow_nil _ _ _ _) (by simp [Value.ownBlock]) (by simp [Value.ownBlock]) (by simp [Value.ownBlock]))
  clear H HQ hC hb2 hc
  go_wp2_with fail
  refine (next_any c 4 _ HT.out.sk.cds (by omega) (by omega)).mono ?_
  rintro e w3 ⟨m, hm, rfl, hd⟩
  replace HT := Hd.mk (HT.out.dr hd)
  obtain ⟨bs, hbs⟩ : ∃ b, b = w2.heap.size := ⟨_, rfl⟩
  rw [← hbs] at HT
  clear hd hbs
  obtain ⟨i0, hi, hz0, hz1, hz2⟩ := info_parts info30z
  have HI := Hd.mk (And.intro hi (And.intro hz0 (And.intro hz1 hz2)))
  clear hi hz0 hz1 hz2
  go_wp2_with fail
  go_loopw [4, 5, 6] (fun va vb i wr => ∃ (fs : List (Nat → Cl)) (t : Nat), fs.length + t = m ∧ i = .int .i64 (t : Int) ∧ Hd (Two c w.heap.size bs w [] va fs.length (flatR fs) vb fs.length (flatR fs) wr)) (fun _ _ i _ => (intOf i).toNat)
  case atStart => exact ⟨[], m, by simp, rfl, HT⟩
  case round =>
    clear HT
    obtain ⟨fs, t, ht, rfl, HT⟩ := hrel
    by_cases h0 : t = 0
    case pos =>
      have e0 : ¬ (0 : Int) < t := by omega
      obtain rfl : fs.length = m := by omega
      clear h0
      go_wp2_with fail
      refine (next_any c 3 _ HT.out.sk.cds (by omega) (by omega)).mono ?_
      rintro e w5 ⟨k0, hk0, rfl, hd⟩
      replace HT := Hd.mk (HT.out.dr hd)
      have hlen : fs.length ≤ 3 := by omega
      clear hd
      go_upto_block 2 with fail
      go_cut [9] (fun _ W => ∃ (gs : List (Nat → Cl)), Hd (gs.length = fs.length) ∧ Hd (Two c w.heap.size bs w [] u4 fs.length (flatR fs) u5 gs.length (flatR gs) W))
      case first =>
        go_wp2_with fail
        go_loopw [9] (fun i W => ∃ (gs : List (Nat → Cl)) (k : Nat), Hd (gs.length = fs.length) ∧ k ≤ k0 ∧ i = .int .i64 (k : Int) ∧ Hd (Two c w.heap.size bs w [] u4 fs.length (flatR fs) u5 gs.length (flatR gs) W)) (fun i _ => (intOf i).toNat)
        case atStart => exact ⟨fs, k0, ⟨rfl⟩, Nat.le_refl _, rfl, HT⟩
        case round =>
          clear HT
          obtain ⟨gs, k, hgl, hkk, rfl, HT⟩ := hrel
          have hgl3 : gs.length ≤ 3 := by rw [hgl.out]; exact hlen
          obtain ⟨a5, c5, rfl, hf⟩ := own_form HT.out.ob
          by_cases h1 : 0 < k
          · by_cases h2 : 0 < gs.length
            · have q1 : (0 : Int) < k := by omega
              have q2 : (0 : Int) < gs.length := by omega
              obtain ⟨g, rfl⟩ : ∃ g, a5 = some ⟨g, 0, none⟩ := hf.resolve_left (by omega)
              clear hf
              go_wp2_with fail
              refine (next_any c gs.length _ HT.out.sk.cds (by omega) (by omega)).mono ?_
              rintro e w6 ⟨r, hr, rfl, hd⟩
              replace HT := Hd.mk (HT.out.dr hd)
              clear hd
              go_wp2_with fail
              refine (next_any c 16 _ HT.out.sk.cds (by omega) (by omega)).mono ?_
              rintro e w7 ⟨s, hs, rfl, hd⟩
              replace HT := Hd.mk (HT.out.dr hd)
              clear hd
              have u1 : (0 : Int) ≤ (r : Int) := by omega
              have u2 : (0 : Int) ≤ (s : Int) := by omega
              have v1 : (r : Int) < gs.length := hr
              have v1n : r < gs.length := by omega
              have hsn : s < 16 := by omega
              have v2 : (s : Int) < 16 := hs
              go_wp2_with fail
              go_region_held3 (fun W => True) (exact trivial) ((go_at_call 8; refine (cell_any c _ ?_).mono ?_; exact HT.out.drew.sk.cds; rintro e w8 ⟨x, hx, rfl, hd8⟩; simp only [clV]; have HY := Hd.mk (HT.out.drew.dr hd8); obtain ⟨fr, fr2, ce, ce2⟩ := cell_there HY.out.ob r s v1n hsn))
              have HZ := Hd.mk (HY.out.cell rfl r s x v1n hsn)
              clear HT HY fr fr2 ce ce2 hd8
              go_wp2_with fail
              go_roundw
              case rel => exact ⟨_, k - 1, ⟨by rw [List.length_set]; exact hgl.out⟩, by omega, by go_num, HZ⟩
              case measure => simp [intOf]; omega
            · have q1 : (0 : Int) < k := by omega
              have q2 : ¬ (0 : Int) < gs.length := by omega
              go_wp2_with fail
              go_meet
              case rel => exact ⟨gs, hgl, HT⟩
          · have q1 : ¬ (0 : Int) < k := by omega
            go_wp2_with fail
            go_meet
            case rel => exact ⟨gs, hgl, HT⟩
      case rest =>
        clear HT
        obtain ⟨gs, hgl, HT⟩ := hcut
        obtain ⟨a4, c4, rfl, hf4⟩ := own_form HT.out.oa
        obtain ⟨a5, c5, rfl, hf5⟩ := own_form HT.out.ob
        have HF4 := Hd.mk hf4
        have HF5 := Hd.mk hf5
        clear hf4 hf5
        go_wp2_with fail
        go_loopw [8, 12] (fun v8 v12 W => ∃ (i n8 : Nat), i ≤ fs.length ∧ v12 = .int .i64 (i : Int) ∧ v8 = .int .i64 (n8 : Int) ∧ Hd (n8 = (dlK fs gs i).length) ∧ Hd (Two c w.heap.size bs w [] (.slice a4 fs.length c4) fs.length (flatR fs) (.slice a5 gs.length c5) gs.length (flatR gs) W)) (fun _ v12 _ => fs.length - (intOf v12).toNat)
        case atStart => exact ⟨0, 0, Nat.zero_le _, rfl, rfl, ⟨rfl⟩, HT⟩
        case round =>
          clear HT
          obtain ⟨i, n8, hi, rfl, rfl, HN, HT⟩ := hrel
          by_cases hlt : i < fs.length
          · have q1 : (i : Int) < fs.length := by omega
            obtain ⟨g4, rfl⟩ : ∃ g, a4 = some ⟨g, 0, none⟩ := HF4.out.resolve_left (by omega)
            have hlt5 : i < gs.length := by rw [hgl.out]; exact hlt
            have q5 : (i : Int) < gs.length := by omega
            have q0 : (0 : Int) ≤ i := by omega
            obtain ⟨g5, rfl⟩ : ∃ g, a5 = some ⟨g, 0, none⟩ := HF5.out.resolve_left (by omega)
            clear HF4 HF5
            go_wp2_with fail
            go_loopw [8, 13] (fun v8 v13 W => ∃ (j n9 : Nat), j ≤ 16 ∧ v13 = .int .i64 (j : Int) ∧ v8 = .int .i64 (n9 : Int) ∧ Hd (n9 = n8 + (dlS i (rowL fs i) (rowL gs i) j).length) ∧ Hd (Two c w.heap.size bs w [] (.slice (some ⟨g4, 0, none⟩) fs.length c4) fs.length (flatR fs) (.slice (some ⟨g5, 0, none⟩) gs.length c5) gs.length (flatR gs) W)) (fun _ v13 _ => 16 - (intOf v13).toNat)
            case atStart => exact ⟨0, n8, Nat.zero_le _, rfl, rfl, ⟨rfl⟩, HT⟩
            case round =>
              clear HT
              obtain ⟨j, n9, hj, rfl, rfl, HN9, HT⟩ := hrel
              by_cases hlj : j < 16
              · have qj : (j : Int) < 16 := by omega
                have q0j : (0 : Int) ≤ j := by omega
                have hn9 : n9 ≤ 1000 := by
                  have h1 := HN.out
                  have h2 := HN9.out
                  have h3 := dlK_len fs gs i
                  have h4 := dlS_len i (rowL fs i) (rowL gs i) j
                  omega
                obtain ⟨-, -, ce, ce2⟩ := cell_there HT.out.oa i j hlt hlj
                obtain ⟨-, -, de, de2⟩ := cell_there HT.out.ob i j hlt5 hlj
                go_wp2_with fail
                go_quiet (fail)
                cases hc : clEq (rowL fs i j) (rowL gs i j) with
                | true =>
                  go_wp2_with fail
                  go_roundw
                  case rel => exact ⟨j + 1, n9, by omega, by go_num, rfl, ⟨by rw [dlS_same hc]; exact HN9.out⟩, ⟨HT.out.dr (Dr.drewN c _ _)⟩⟩
                  case measure => simp [intOf]; omega
                | false =>
                  go_wp2_with fail
                  go_roundw
                  case rel => exact ⟨j + 1, n9 + 1, by omega, by go_num, by go_num, ⟨by rw [dlS_more hc, List.length_append, HN9.out]; rfl⟩, ⟨HT.out.dr (Dr.drewN c _ _)⟩⟩
                  case measure => simp [intOf]; omega
              · obtain rfl : j = 16 := by omega
                go_wp2_with fail
                go_roundw
                case rel => exact ⟨i + 1, n9, by omega, by go_num, rfl, ⟨by rw [HN9.out, HN.out, show dlK fs gs (i + 1) = dlK fs gs i ++ dlS i (rowL fs i) (rowL gs i) 16 from rfl, List.length_append]⟩, HT⟩
                case measure => simp [intOf]; omega
          · obtain rfl : i = fs.length := by omega
            go_upto_region 24 with fail
            have HE := Hd.mk (Below.refl wr.heap.size wr)
            have hbase := HT.out.hb
            have hgl3 : gs.length ≤ 3 := by rw [hgl.out]; exact hlen
            go_cut [14] (fun v14 W => Hd (RowsAt W v14 (gs ++ [zR])) ∧ Hd (Two c w.heap.size bs w [] (.slice a4 fs.length c4) fs.length (flatR fs) (.slice a5 gs.length c5) gs.length (flatR gs) W))
            case first =>
              by_cases hn : gs.length = 0
              · have HN0 := Hd.mk hn
                clear hn
                go_wp2_with (at_builtin; first | (refine wpList_append_empty rfl (.const (.slice none 0 0)) (.tmp 90) 26 rfl 30 i0 Tryz.underlying26 HI.out.1 (by rfl) a5 c5 (congrArg (fun n => Value.slice a5 n c5) HN0.out) ?_) | (refine wpList_append_lies _ rfl (.tmp 91) (.tmp 93) 26 rfl wr.heap.size 30 i0 (.agg (clA zR)) 32 384 Tryz.underlying26 HI.out.1 HI.out.2.1 HI.out.2.2.1 HI.out.2.2.2 (clA_size zR) (by decide) (.slice none 0 0) 0 [] (by rfl) (World.ownsRow_nil _ _ _ _) ⟨wr.heap.size, 0, none⟩ 1 1 (clA zR).toList (by rfl) (clA_len _) (World.news_of_block (heap_alloc_new wr _)) (clA_oneL _) (by decide) (by first | decide | (unfold maxLen; omega)) (by first | decide | omega) (by simp) _ rfl ?_; intro g2 cap2 w9 hown hgrow hat hlt2))
                have HB := Hd.mk (grown_below ((Below.refl wr.heap.size wr).alloc (Nat.le_refl _) _) hgrow (by simp) (by simp [Value.ownBlock]))
                have HR := Hd.mk (own_rows (gs := gs ++ [zR]) hown (by rw [List.length_append, HN0.out]; rfl) (by rw [List.eq_nil_of_length_eq_zero HN0.out]; simp [flatR]))
                clear hown hgrow hat hlt2
                go_wp2_with fail
                go_meet
                case rel => exact ⟨HR, ⟨HT.out.step HB.out⟩⟩
              · obtain ⟨g5, rfl⟩ : ∃ g, a5 = some ⟨g, 0, none⟩ := HF5.out.resolve_left hn
                go_wp2_with (at_builtin; first | (refine wpList_append_lies _ rfl (.const (.slice none 0 0)) (.tmp 90) 26 rfl wr.heap.size 30 i0 (.agg (clA zR)) 32 384 Tryz.underlying26 HI.out.1 HI.out.2.1 HI.out.2.2.1 HI.out.2.2.2 (clA_size zR) (by decide) (.slice none 0 0) 0 [] (by rfl) (World.ownsRow_nil _ _ _ _) ⟨g5, 0, none⟩ gs.length c5 (flatR gs) (by rfl) (flatR_len gs) (HT.out.ob.cells (g := g5) rfl) (flatR_oneL gs) (by omega) (by unfold maxLen; omega) (by omega) (Nat.le_refl _) _ rfl ?_; intro g1 cap1 w8 hown1 hgrow1 hat1 hlt1; have HO1 : Hd (World.ownsRow w8 wr.heap.size 30 32 (.slice (some ⟨g1, 0, none⟩) gs.length cap1) gs.length (flatR gs)) := ⟨by rw [← Nat.zero_add gs.length]; exact hown1⟩; have HB1 := Hd.mk (grown_below (Below.refl wr.heap.size wr) hgrow1 (Nat.le_refl _) (by simp [Value.ownBlock])); clear hown1 hgrow1 hat1 hlt1) | (refine wpList_append_lies _ rfl (.tmp 91) (.tmp 93) 26 rfl wr.heap.size 30 i0 (.agg (clA zR)) 32 384 Tryz.underlying26 HI.out.1 HI.out.2.1 HI.out.2.2.1 HI.out.2.2.2 (clA_size zR) (by decide) (.slice (some ⟨g1, 0, none⟩) gs.length cap1) gs.length (flatR gs) (by rfl) (HO1.out.alloc _) ⟨w8.heap.size, 0, none⟩ 1 1 (clA zR).toList (by rfl) (clA_len _) (World.news_of_block (heap_alloc_new w8 _)) (clA_oneL _) (by decide) (by first | decide | (unfold maxLen; omega)) (by first | decide | omega) (by have := HB1.out.size; simp; omega) _ rfl ?_; intro g2 cap2 w9 hown hgrow hat hlt2))
                have HB := Hd.mk (grown_below (HB1.out.alloc HB1.out.size _) hgrow (by have := HB1.out.size; simp; omega) (fun k hk => (HO1.out.lt k hk).1))
                have HR := Hd.mk (own_rows (gs := gs ++ [zR]) hown (by rw [List.length_append]; rfl) (by rw [flatR_snoc]))
                clear hown hgrow hat hlt2 HO1 HB1
                go_wp2_with fail
                go_meet
                case rel => exact ⟨HR, ⟨HT.out.step HB.out⟩⟩
            case rest =>
              obtain ⟨HR, HT2⟩ := hcut
              clear HT HE HF4 HF5
              have HD := Hd.mk (dl_same fs gs hgl.out)
              go_wp2_with fail
              refine (diffs9 fs gs _ _ _ (HT2.out.rows rfl rfl rfl rfl).1 (HT2.out.rows rfl rfl rfl rfl).2 (by omega) (by omega)).mono ?_
              rintro e w6 ⟨v15, rfl, hown, hb⟩
              replace HT2 := Hd.mk (HT2.out.step hb)
              replace HR := Hd.mk (HR.out.step hb)
              have H15 : Hd (World.ownsRow w6 0 40 6 v15 n8 (flatD (dlK fs gs fs.length))) := ⟨by rw [HN.out]; have h := own_weak hown; rw [hgl.out, Nat.max_self] at h; exact h⟩
              clear hown hb
              go_wp2_with fail
              refine (diffs9 gs fs _ _ _ (HT2.out.rows rfl rfl rfl rfl).2 (HT2.out.rows rfl rfl rfl rfl).1 (by omega) (by omega)).mono ?_
              rintro e w7 ⟨v16, rfl, hown, hb⟩
              replace HT2 := Hd.mk (HT2.out.step hb)
              replace HR := Hd.mk (HR.out.step hb)
              replace H15 := Hd.mk (own_below H15.out hb)
              have H16 : Hd (World.ownsRow w7 0 40 6 v16 n8 (flatD ((dlK fs gs fs.length).map Df.flip))) := ⟨by have h := own_weak hown; rw [hgl.out, Nat.max_self, HD.out.1, List.length_map, ← HN.out] at h; exact h⟩
              clear hown hb
              go_wp2_with fail
              refine (diffs9 fs (gs ++ [zR]) _ _ _ (HT2.out.rows rfl rfl rfl rfl).1 HR.out (by omega) (by rw [List.length_append, List.length_singleton]; omega)).mono ?_
              rintro e w8 ⟨v17, rfl, hown, hb⟩
              replace HT2 := Hd.mk (HT2.out.step hb)
              replace H15 := Hd.mk (own_below H15.out hb)
              replace H16 := Hd.mk (own_below H16.out hb)
              have H17 : Hd (World.ownsRow w8 0 40 6 v17 n8 (flatD (dlK fs gs fs.length))) := ⟨by have h := own_weak hown; rw [HD.out.2, ← HN.out] at h; exact h⟩
              clear hown hb HR
              obtain ⟨a15, c15, rfl, hf15⟩ := own_form H15.out
              obtain ⟨a16, c16, rfl, hf16⟩ := own_form H16.out
              obtain ⟨a17, c17, rfl, hf17⟩ := own_form H17.out
              have HF := Hd.mk (And.intro hf15 (And.intro hf16 hf17))
              have HFin := Hd.mk (Fin3.mk H15.out H16.out H17.out HT2.out.sk.below)
              clear hf15 hf16 hf17 H15 H16 H17 HT2
              go_wp2_with fail
              go_loopw [18] (fun v18 W => ∃ k : Nat, k ≤ n8 ∧ v18 = .int .i64 (k : Int) ∧ Hd (Fin3 w (.slice a15 n8 c15) (.slice a16 n8 c16) (.slice a17 n8 c17) n8 (dlK fs gs fs.length) W)) (fun v18 _ => n8 - (intOf v18).toNat)
              case atStart => exact ⟨0, Nat.zero_le _, rfl, HFin⟩
              case round =>
                clear HFin
                obtain ⟨k, hk, rfl, HFin⟩ := hrel
                have hn8 : n8 ≤ 1000 := by
                  have h1 := HN.out
                  have h3 := dlK_len fs gs fs.length
                  omega
                by_cases hltk : k < n8
                · have qk : (k : Int) < n8 := by omega
                  have q0 : (0 : Int) ≤ k := by omega
                  obtain ⟨g15, rfl⟩ : ∃ g, a15 = some ⟨g, 0, none⟩ := HF.out.1.resolve_left (by omega)
                  obtain ⟨g16, rfl⟩ : ∃ g, a16 = some ⟨g, 0, none⟩ := HF.out.2.1.resolve_left (by omega)
                  obtain ⟨g17, rfl⟩ : ∃ g, a17 = some ⟨g, 0, none⟩ := HF.out.2.2.resolve_left (by omega)
                  obtain ⟨y, z0, z1, z2⟩ := HFin.out.cells HN.out hltk
                  simp only [DfAt, Df.flip] at z0 z1 z2
                  obtain ⟨e0', e1, e2, e3, e4, e5⟩ := z0
                  obtain ⟨f0, f1, f2, f3, f4, f5⟩ := z1
                  obtain ⟨i0', i1, i2, i3, i4, i5⟩ := z2
                  go_wp2_with fail
                  go_quiet (fail)
                  go_wp2_with fail
                  go_roundw
                  case rel => exact ⟨k + 1, by omega, by go_num, ⟨HFin.out.drewN _⟩⟩
                  case measure => simp [intOf]; omega
                · obtain rfl : k = n8 := by omega
                  go_wp2_with fail
                  go_ret
                  exact ⟨rfl, HFin.out.below⟩
    case neg =>
      have e0 : (0 : Int) < t := by omega
      go_wp2_with fail
      refine (page_any c 0 _ HT.out.sk.cds).mono ?_
      rintro e w4 ⟨p, hp1, hp2, rfl, hd⟩
      have HX := Hd.mk ((HT.out.dr hd).alloc (pgA p) 32 w4.heap.size rfl)
      clear HT hd
      obtain ⟨gp, hgp⟩ : ∃ g, g = w4.heap.size := ⟨_, rfl⟩
      rw [← hgp] at HX
      have hlen : fs.length ≤ 3 := by omega
      go_upto_region 9 with fail
      rw [← hgp]
      generalize w4.alloc (Obj.cells (pgA p) 32) = wx at HX ⊢
      clear hgp
      refine wp_region_held_drew (S := fun W => Hd (W.heap[gp]? = some (.cells (pgA p) 32 (0, 0)))) (by kernel_rfl) ⟨two_mem HX.out.drew gp _ _ (by simp)⟩ (fun hHeld => ?_)
      replace HX := Hd.mk HX.out.drew
      generalize wx.drew = wy at HX hHeld ⊢
      refine wpAnyH_name 12 #[false, false, false, false, false, false, false, false, false, false, false, false] (by kernel_rfl) (by kernel_rfl) ?_
      refine wpAnyH_take2 (i := 0) (v := ?vq0) (listed' := #[true, false, false, false, false, false, false, false, false, false, false, false]) (some 31) rfl (by kernel_rfl) (by kernel_rfl) (by kernel_rfl) (fun _ _ _ h => h) rfl (by kernel_rfl) (Or.inl ⟨by rfl, ?yq0⟩) hHeld ?zq0
      case yq0 => (intro W hSw; go_simp; try (with_reducible rfl))
      simp only [Act.put, List.setIfInBounds_toArray, List.set_cons_zero, List.set_cons_succ]
      refine wpAnyH_take2 (i := 1) (v := ?vq1) (listed' := #[true, true, false, false, false, false, false, false, false, false, false, false]) (some 32) rfl (by kernel_rfl) (by kernel_rfl) (by kernel_rfl) (fun _ _ _ h => h) rfl (by kernel_rfl) (Or.inl ⟨by rfl, ?yq1⟩) hHeld ?zq1
      case yq1 => (intro W hSw; go_simp; try (with_reducible rfl))
      simp only [Act.put, List.setIfInBounds_toArray, List.set_cons_zero, List.set_cons_succ]
      refine wpAnyH_take2 (i := 2) (v := ?vq2) (listed' := #[true, true, true, false, false, false, false, false, false, false, false, false]) (some 33) rfl (by kernel_rfl) (by kernel_rfl) (by kernel_rfl) (fun _ _ _ h => h) rfl (by kernel_rfl) (Or.inl ⟨by rfl, ?yq2⟩) hHeld ?zq2
      case yq2 => (intro W hSw; have hld := run_ld25' W gp p hSw.out; go_simp; try (with_reducible rfl))
      simp only [Act.put, List.setIfInBounds_toArray, List.set_cons_zero, List.set_cons_succ]
      refine wpAnyH_take2 (i := 5) (v := ?vq5) (listed' := #[true, true, true, false, false, true, false, false, false, false, false, false]) (some 36) rfl (by kernel_rfl) (by kernel_rfl) (by kernel_rfl) (fun _ _ _ h => h) rfl (by kernel_rfl) (Or.inl ⟨by rfl, ?yq5⟩) hHeld ?zq5
      case yq5 => (intro W hSw; go_simp; try (with_reducible rfl))
      simp only [Act.put, List.setIfInBounds_toArray, List.set_cons_zero, List.set_cons_succ]
      refine wpAnyH_take2 (i := 6) (v := ?vq6) (listed' := #[true, true, true, false, false, true, true, false, false, false, false, false]) (some 37) rfl (by kernel_rfl) (by kernel_rfl) (by kernel_rfl) (fun _ _ _ h => h) rfl (by kernel_rfl) (Or.inl ⟨by rfl, ?yq6⟩) hHeld ?zq6
      case yq6 => (intro W hSw; go_simp; try (with_reducible rfl))
      simp only [Act.put, List.setIfInBounds_toArray, List.set_cons_zero, List.set_cons_succ]
      refine wpAnyH_take2 (i := 7) (v := ?vq7) (listed' := #[true, true, true, false, false, true, true, true, false, false, false, false]) (some 38) rfl (by kernel_rfl) (by kernel_rfl) (by kernel_rfl) (fun _ _ _ h => h) rfl (by kernel_rfl) (Or.inl ⟨by rfl, ?yq7⟩) hHeld ?zq7
      case yq7 => (intro W hSw; have hld := run_ld25' W gp p hSw.out; go_simp; try (with_reducible rfl))
      simp only [Act.put, List.setIfInBounds_toArray, List.set_cons_zero, List.set_cons_succ]
      refine wpAnyH_ready (rs := [3, 8]) (by kernel_rfl) (by simp) (AllReadyH.cons rfl (fun K hK => ?_) (AllReadyH.cons rfl (fun K hK => ?_) AllReadyH.nil))
      · go_simp
        refine hK.out _ _ ⟨two_mem (HX.out.alloc (clA p.cell) 30 _ rfl) gp _ _ (by simp)⟩ (fun hHeld => ?_)
        clear hK K
        simp only [Act.put, List.setIfInBounds_toArray, List.set_cons_zero, List.set_cons_succ]
        replace HX := Hd.mk (HX.out.alloc (clA p.cell) 30 _ rfl)
        obtain ⟨ga, hga⟩ : ∃ g, g = wy.heap.size := ⟨_, rfl⟩
        rw [← hga] at HX ⊢
        generalize wy.alloc (.cells (clA p.cell) 30) = wza at HX hHeld ⊢
        clear hga
        refine wpAnyH_ready (rs := [4, 8]) (by kernel_rfl) (by simp) (AllReadyH.cons rfl (fun K hK => ?_) (AllReadyH.cons rfl (fun K hK => ?_) AllReadyH.nil))
        · refine step_append_lies _ (by rfl) (.tmp 31) (.tmp 34) 26 (by rfl) bs 30 i0 (.agg (clA zR)) 32 384 Tryz.underlying26 HI.out.1 HI.out.2.1 HI.out.2.2.1 HI.out.2.2.2 (clA_size zR) (by decide) u4 fs.length (flatR fs) (by rfl) HX.out.oa ⟨ga, 0, none⟩ 1 1 (clA p.cell).toList (by rfl) (clA_len _) (World.news_of_block (two_mem HX.out ga (clA p.cell) 30 (by simp))) (clA_oneL _) (by decide) (by unfold maxLen; omega) (by omega) HX.out.hb _ rfl ?_
          intro ga2 capa w8aa hown hgrow hat hlt2
          replace HX := Hd.mk (HX.out.appA hown hgrow hat)
          clear hown hgrow hat hlt2
          refine hK.out _ _ ⟨two_mem HX.out gp _ _ (by simp)⟩ (fun hHeld => ?_)
          clear hK K
          simp only [Act.put, List.setIfInBounds_toArray, List.set_cons_zero, List.set_cons_succ]
          refine wpAnyH_ready (rs := [8]) (by kernel_rfl) (by simp) (AllReadyH.cons rfl (fun K hK => ?_) AllReadyH.nil)
          · go_simp
            refine hK.out _ _ ⟨two_mem (HX.out.alloc (clA p.cell) 30 _ rfl) gp _ _ (by simp)⟩ (fun hHeld => ?_)
            clear hK K
            simp only [Act.put, List.setIfInBounds_toArray, List.set_cons_zero, List.set_cons_succ]
            replace HX := Hd.mk (HX.out.alloc (clA p.cell) 30 _ rfl)
            obtain ⟨gb, hgb⟩ : ∃ g, g = w8aa.heap.size := ⟨_, rfl⟩
            rw [← hgb] at HX ⊢
            generalize w8aa.alloc (.cells (clA p.cell) 30) = wzaab at HX hHeld ⊢
            clear hgb
            refine wpAnyH_ready (rs := [9]) (by kernel_rfl) (by simp) (AllReadyH.cons rfl (fun K hK => ?_) AllReadyH.nil)
            · refine step_append_lies _ (by rfl) (.tmp 36) (.tmp 39) 26 (by rfl) bs 30 i0 (.agg (clA zR)) 32 384 Tryz.underlying26 HI.out.1 HI.out.2.1 HI.out.2.2.1 HI.out.2.2.2 (clA_size zR) (by decide) u5 fs.length (flatR fs) (by rfl) HX.out.ob ⟨gb, 0, none⟩ 1 1 (clA p.cell).toList (by rfl) (clA_len _) (World.news_of_block (two_mem HX.out gb (clA p.cell) 30 (by simp))) (clA_oneL _) (by decide) (by unfold maxLen; omega) (by omega) HX.out.hb _ rfl ?_
              intro gb2 capb w8aabb hown hgrow hat hlt2
              replace HX := Hd.mk (HX.out.appB hown hgrow hat)
              clear hown hgrow hat hlt2
              refine hK.out _ _ ⟨two_mem HX.out gp _ _ (by simp)⟩ (fun hHeld => ?_)
              clear hK K
              simp only [Act.put, List.setIfInBounds_toArray, List.set_cons_zero, List.set_cons_succ]
              refine wpAnyH_take2 (i := 10) (v := ?vq10aabb) (listed' := #[true, true, true, true, true, true, true, true, true, true, true, false]) (some 4) rfl (by kernel_rfl) (by kernel_rfl) (by kernel_rfl) (fun _ _ _ h => h) rfl (by kernel_rfl) (Or.inl ⟨by rfl, ?yq10aabb⟩) hHeld ?zq10aabb
              case yq10aabb => (intro W hSw; go_simp; try (with_reducible rfl))
              simp only [Act.put, List.setIfInBounds_toArray, List.set_cons_zero, List.set_cons_succ]
              refine wpAnyH_take2 (i := 11) (v := ?vq11aabb) (listed' := #[true, true, true, true, true, true, true, true, true, true, true, true]) (some 5) rfl (by kernel_rfl) (by kernel_rfl) (by kernel_rfl) (fun _ _ _ h => h) rfl (by kernel_rfl) (Or.inl ⟨by rfl, ?yq11aabb⟩) hHeld ?zq11aabb
              case yq11aabb => (intro W hSw; go_simp; try (with_reducible rfl))
              simp only [Act.put, List.setIfInBounds_toArray, List.set_cons_zero, List.set_cons_succ]
              refine wpAnyH_done (by kernel_rfl) ?_ _
              go_wp2_with fail
              go_roundw
              case rel => exact ⟨fs ++ [p.cell], t - 1, by rw [List.length_append, List.length_singleton]; omega, by go_num, ⟨by rw [flatR_snoc, List.length_append, List.length_singleton]; exact HX.out.sub (fun _ h => by cases h)⟩⟩
              case measure => simp [intOf]; omega
        · go_simp
          refine hK.out _ _ ⟨two_mem (HX.out.alloc (clA p.cell) 30 _ rfl) gp _ _ (by simp)⟩ (fun hHeld => ?_)
          clear hK K
          simp only [Act.put, List.setIfInBounds_toArray, List.set_cons_zero, List.set_cons_succ]
          replace HX := Hd.mk (HX.out.alloc (clA p.cell) 30 _ rfl)
          obtain ⟨gb, hgb⟩ : ∃ g, g = wza.heap.size := ⟨_, rfl⟩
          rw [← hgb] at HX ⊢
          generalize wza.alloc (.cells (clA p.cell) 30) = wzab at HX hHeld ⊢
          clear hgb
          refine wpAnyH_ready (rs := [4]) (by kernel_rfl) (by simp) (AllReadyH.cons rfl (fun K hK => ?_) AllReadyH.nil)
          · refine step_append_lies _ (by rfl) (.tmp 31) (.tmp 34) 26 (by rfl) bs 30 i0 (.agg (clA zR)) 32 384 Tryz.underlying26 HI.out.1 HI.out.2.1 HI.out.2.2.1 HI.out.2.2.2 (clA_size zR) (by decide) u4 fs.length (flatR fs) (by rfl) HX.out.oa ⟨ga, 0, none⟩ 1 1 (clA p.cell).toList (by rfl) (clA_len _) (World.news_of_block (two_mem HX.out ga (clA p.cell) 30 (by simp))) (clA_oneL _) (by decide) (by unfold maxLen; omega) (by omega) HX.out.hb _ rfl ?_
            intro ga2 capa w8aba hown hgrow hat hlt2
            replace HX := Hd.mk (HX.out.appA hown hgrow hat)
            clear hown hgrow hat hlt2
            refine hK.out _ _ ⟨two_mem HX.out gp _ _ (by simp)⟩ (fun hHeld => ?_)
            clear hK K
            simp only [Act.put, List.setIfInBounds_toArray, List.set_cons_zero, List.set_cons_succ]
            refine wpAnyH_ready (rs := [9]) (by kernel_rfl) (by simp) (AllReadyH.cons rfl (fun K hK => ?_) AllReadyH.nil)
            · refine step_append_lies _ (by rfl) (.tmp 36) (.tmp 39) 26 (by rfl) bs 30 i0 (.agg (clA zR)) 32 384 Tryz.underlying26 HI.out.1 HI.out.2.1 HI.out.2.2.1 HI.out.2.2.2 (clA_size zR) (by decide) u5 fs.length (flatR fs) (by rfl) HX.out.ob ⟨gb, 0, none⟩ 1 1 (clA p.cell).toList (by rfl) (clA_len _) (World.news_of_block (two_mem HX.out gb (clA p.cell) 30 (by simp))) (clA_oneL _) (by decide) (by unfold maxLen; omega) (by omega) HX.out.hb _ rfl ?_
              intro gb2 capb w8abab hown hgrow hat hlt2
              replace HX := Hd.mk (HX.out.appB hown hgrow hat)
              clear hown hgrow hat hlt2
              refine hK.out _ _ ⟨two_mem HX.out gp _ _ (by simp)⟩ (fun hHeld => ?_)
              clear hK K
              simp only [Act.put, List.setIfInBounds_toArray, List.set_cons_zero, List.set_cons_succ]
              refine wpAnyH_take2 (i := 10) (v := ?vq10abab) (listed' := #[true, true, true, true, true, true, true, true, true, true, true, false]) (some 4) rfl (by kernel_rfl) (by kernel_rfl) (by kernel_rfl) (fun _ _ _ h => h) rfl (by kernel_rfl) (Or.inl ⟨by rfl, ?yq10abab⟩) hHeld ?zq10abab
              case yq10abab => (intro W hSw; go_simp; try (with_reducible rfl))
              simp only [Act.put, List.setIfInBounds_toArray, List.set_cons_zero, List.set_cons_succ]
              refine wpAnyH_take2 (i := 11) (v := ?vq11abab) (listed' := #[true, true, true, true, true, true, true, true, true, true, true, true]) (some 5) rfl (by kernel_rfl) (by kernel_rfl) (by kernel_rfl) (fun _ _ _ h => h) rfl (by kernel_rfl) (Or.inl ⟨by rfl, ?yq11abab⟩) hHeld ?zq11abab
              case yq11abab => (intro W hSw; go_simp; try (with_reducible rfl))
              simp only [Act.put, List.setIfInBounds_toArray, List.set_cons_zero, List.set_cons_succ]
              refine wpAnyH_done (by kernel_rfl) ?_ _
              go_wp2_with fail
              go_roundw
              case rel => exact ⟨fs ++ [p.cell], t - 1, by rw [List.length_append, List.length_singleton]; omega, by go_num, ⟨by rw [flatR_snoc, List.length_append, List.length_singleton]; exact HX.out.sub (fun _ h => by cases h)⟩⟩
              case measure => simp [intOf]; omega
      · go_simp
        refine hK.out _ _ ⟨two_mem (HX.out.alloc (clA p.cell) 30 _ rfl) gp _ _ (by simp)⟩ (fun hHeld => ?_)
        clear hK K
        simp only [Act.put, List.setIfInBounds_toArray, List.set_cons_zero, List.set_cons_succ]
        replace HX := Hd.mk (HX.out.alloc (clA p.cell) 30 _ rfl)
        obtain ⟨gb, hgb⟩ : ∃ g, g = wy.heap.size := ⟨_, rfl⟩
        rw [← hgb] at HX ⊢
        generalize wy.alloc (.cells (clA p.cell) 30) = wzb at HX hHeld ⊢
        clear hgb
        refine wpAnyH_ready (rs := [3]) (by kernel_rfl) (by simp) (AllReadyH.cons rfl (fun K hK => ?_) AllReadyH.nil)
        · go_simp
          refine hK.out _ _ ⟨two_mem (HX.out.alloc (clA p.cell) 30 _ rfl) gp _ _ (by simp)⟩ (fun hHeld => ?_)
          clear hK K
          simp only [Act.put, List.setIfInBounds_toArray, List.set_cons_zero, List.set_cons_succ]
          replace HX := Hd.mk (HX.out.alloc (clA p.cell) 30 _ rfl)
          obtain ⟨ga, hga⟩ : ∃ g, g = wzb.heap.size := ⟨_, rfl⟩
          rw [← hga] at HX ⊢
          generalize wzb.alloc (.cells (clA p.cell) 30) = wzba at HX hHeld ⊢
          clear hga
          refine wpAnyH_ready (rs := [4]) (by kernel_rfl) (by simp) (AllReadyH.cons rfl (fun K hK => ?_) AllReadyH.nil)
          · refine step_append_lies _ (by rfl) (.tmp 31) (.tmp 34) 26 (by rfl) bs 30 i0 (.agg (clA zR)) 32 384 Tryz.underlying26 HI.out.1 HI.out.2.1 HI.out.2.2.1 HI.out.2.2.2 (clA_size zR) (by decide) u4 fs.length (flatR fs) (by rfl) HX.out.oa ⟨ga, 0, none⟩ 1 1 (clA p.cell).toList (by rfl) (clA_len _) (World.news_of_block (two_mem HX.out ga (clA p.cell) 30 (by simp))) (clA_oneL _) (by decide) (by unfold maxLen; omega) (by omega) HX.out.hb _ rfl ?_
            intro ga2 capa w8baa hown hgrow hat hlt2
            replace HX := Hd.mk (HX.out.appA hown hgrow hat)
            clear hown hgrow hat hlt2
            refine hK.out _ _ ⟨two_mem HX.out gp _ _ (by simp)⟩ (fun hHeld => ?_)
            clear hK K
            simp only [Act.put, List.setIfInBounds_toArray, List.set_cons_zero, List.set_cons_succ]
            refine wpAnyH_ready (rs := [9]) (by kernel_rfl) (by simp) (AllReadyH.cons rfl (fun K hK => ?_) AllReadyH.nil)
            · refine step_append_lies _ (by rfl) (.tmp 36) (.tmp 39) 26 (by rfl) bs 30 i0 (.agg (clA zR)) 32 384 Tryz.underlying26 HI.out.1 HI.out.2.1 HI.out.2.2.1 HI.out.2.2.2 (clA_size zR) (by decide) u5 fs.length (flatR fs) (by rfl) HX.out.ob ⟨gb, 0, none⟩ 1 1 (clA p.cell).toList (by rfl) (clA_len _) (World.news_of_block (two_mem HX.out gb (clA p.cell) 30 (by simp))) (clA_oneL _) (by decide) (by unfold maxLen; omega) (by omega) HX.out.hb _ rfl ?_
              intro gb2 capb w8baab hown hgrow hat hlt2
              replace HX := Hd.mk (HX.out.appB hown hgrow hat)
              clear hown hgrow hat hlt2
              refine hK.out _ _ ⟨two_mem HX.out gp _ _ (by simp)⟩ (fun hHeld => ?_)
              clear hK K
              simp only [Act.put, List.setIfInBounds_toArray, List.set_cons_zero, List.set_cons_succ]
              refine wpAnyH_take2 (i := 10) (v := ?vq10baab) (listed' := #[true, true, true, true, true, true, true, true, true, true, true, false]) (some 4) rfl (by kernel_rfl) (by kernel_rfl) (by kernel_rfl) (fun _ _ _ h => h) rfl (by kernel_rfl) (Or.inl ⟨by rfl, ?yq10baab⟩) hHeld ?zq10baab
              case yq10baab => (intro W hSw; go_simp; try (with_reducible rfl))
              simp only [Act.put, List.setIfInBounds_toArray, List.set_cons_zero, List.set_cons_succ]
              refine wpAnyH_take2 (i := 11) (v := ?vq11baab) (listed' := #[true, true, true, true, true, true, true, true, true, true, true, true]) (some 5) rfl (by kernel_rfl) (by kernel_rfl) (by kernel_rfl) (fun _ _ _ h => h) rfl (by kernel_rfl) (Or.inl ⟨by rfl, ?yq11baab⟩) hHeld ?zq11baab
              case yq11baab => (intro W hSw; go_simp; try (with_reducible rfl))
              simp only [Act.put, List.setIfInBounds_toArray, List.set_cons_zero, List.set_cons_succ]
              refine wpAnyH_done (by kernel_rfl) ?_ _
              go_wp2_with fail
              go_roundw
              case rel => exact ⟨fs ++ [p.cell], t - 1, by rw [List.length_append, List.length_singleton]; omega, by go_num, ⟨by rw [flatR_snoc, List.length_append, List.length_singleton]; exact HX.out.sub (fun _ h => by cases h)⟩⟩
              case measure => simp [intOf]; omega
end Go.Proofs.YtcjmejokgoefkaaGreat
