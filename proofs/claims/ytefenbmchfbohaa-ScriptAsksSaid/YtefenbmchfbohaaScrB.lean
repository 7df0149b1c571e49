/-
  slices.Repeat at entries, and the product that it asks for: the walks.
-/
import Derived.Test.YtefenbmchfbohaaScrA
import Derived.Shelf.Bits.Mul64
import Derived.Laws.CopyRow
import Derived.Laws.IdiomCopy
import Derived.Deep.RegionLaw
namespace Go.Rp
open Go.RowKit
section
variable {P : Program} (w : World)
/-- copy of elements of several cells. -/
theorem run_copy_sz (dT sT ty e : TypeId) (i : TypeInfo) (sz : Nat) (g o dLen dCap : Nat) (a : Addr) (sLen sCap : Nat) (cur : Array Value) (t : TypeId) (cs : List Value)
    (hu : P.underlying dT = some (.slice e)) (hi : P.info? e = some i) (hsize : i.size = sz)
    (hg : w.heap[g]? = some (.cells cur t (0, 0))) (hn : cs.length = Nat.min sLen dLen * sz)
    (hsrc : ∀ j v, cs[j]? = some v → w.cell? (a.add j) = some v) (hfit : o + cs.length ≤ cur.size) (h1 : ∀ v ∈ cs, v.oneCell' = true) :
    (Builtin.copy_ #[dT, sT] ty #[.slice (some ⟨g, o, none⟩) dLen dCap, .slice (some a) sLen sCap]).run P w =
      .ok (goInt (Nat.min sLen dLen)) (w.setRow g (cur.toList.take o ++ cs ++ cur.toList.drop (o + cs.length)).toArray) := by
  subst hsize
  have hl := run_loadCells_list (P := P) w a cs hsrc
  have hst := run_storeCells_at P g o t cs 0 cur w hg (by simpa using hfit) h1
  simp only [Nat.add_zero] at hst
  simp only [Builtin.copy_, List.getElem?_toArray, List.getElem?_cons_zero, List.getElem?_cons_succ, Sem.run_bind, run_underlying hu, Result.andThen_ok, Builtin.lenOf, Builtin.firstCells, sizeOf, typeInfo, run_program, hi, Sem.run_pure, ← hn, hl, hst]
theorem wp_copy_sz {o : Oper} {a : Act} {K : Act → World → Prop} {Q : Exit → Act → World → Prop} (d s : Operand) (dT sT : TypeId)
    (ho : o.op = .call { callee := .builtin .copy, args := #[d, s], argTypes := #[dT, sT] }) (e : TypeId) (i : TypeInfo) (sz : Nat) (hu : P.underlying dT = some (.slice e)) (hi : P.info? e = some i) (hsize : i.size = sz)
    (g off dLen dCap : Nat) (ad : Addr) (sLen sCap : Nat) (hd : a.eval d = .slice (some ⟨g, off, none⟩) dLen dCap) (hs : a.eval s = .slice (some ad) sLen sCap)
    (cur : Array Value) (t : TypeId) (hg : w.heap[g]? = some (.cells cur t (0, 0))) (cs : List Value) (hn : cs.length = Nat.min sLen dLen * sz)
    (hsrc : ∀ j v, cs[j]? = some v → w.cell? (ad.add j) = some v) (hfit : off + cs.length ≤ cur.size) (h1 : ∀ v ∈ cs, v.oneCell' = true)
    (h : ∀ w', Blk w' g t (cur.toList.take off ++ cs ++ cur.toList.drop (off + cs.length)).toArray → Mod (fun b => b = g) w w' → K (a.put o.dst (goInt (Nat.min sLen dLen))) w') : o.wp P a w K Q := by
  have hrun := run_copy_sz (P := P) w dT sT o.type e i sz g off dLen dCap ad sLen sCap cur t cs hu hi hsize hg hn hsrc hfit h1
  unfold Oper.wp execOp
  simp only [ho, resolve, invoke, builtin, Sem.run_bind, Sem.run_pure, Result.andThen_ok, List.map_toArray, List.map_cons, List.map_nil, hd, hs, hrun]
  refine h _ (setRow_heap w g _ _ t _ hg) ⟨rfl, rfl, rfl, by simp [World.setRow], fun k _ hk => setRow_other w g k _ hk⟩
theorem wpList_copy_sz {ops : Array Oper} {rest : List Oper} {o : Oper} {a : Act} {Q : Exit → Act → World → Prop} (hgd : o.guard = none) (d s : Operand) (dT sT : TypeId)
    (ho : o.op = .call { callee := .builtin .copy, args := #[d, s], argTypes := #[dT, sT] }) (e : TypeId) (i : TypeInfo) (sz : Nat) (hu : P.underlying dT = some (.slice e)) (hi : P.info? e = some i) (hsize : i.size = sz)
    (g off dLen dCap : Nat) (ad : Addr) (sLen sCap : Nat) (hd : a.eval d = .slice (some ⟨g, off, none⟩) dLen dCap) (hs : a.eval s = .slice (some ad) sLen sCap)
    (cur : Array Value) (t : TypeId) (hg : w.heap[g]? = some (.cells cur t (0, 0))) (cs : List Value) (hn : cs.length = Nat.min sLen dLen * sz)
    (hsrc : ∀ j v, cs[j]? = some v → w.cell? (ad.add j) = some v) (hfit : off + cs.length ≤ cur.size) (h1 : ∀ v ∈ cs, v.oneCell' = true)
    (h : ∀ w', Blk w' g t (cur.toList.take off ++ cs ++ cur.toList.drop (off + cs.length)).toArray → Mod (fun b => b = g) w w' → wpList P ops Q rest (a.put o.dst (goInt (Nat.min sLen dLen))) w') : wpList P ops Q (o :: rest) a w :=
  wpList_plain hgd fun _ hK => wp_copy_sz w d s dT sT ho e i sz hu hi hsize g off dLen dCap ad sLen sCap hd hs cur t hg cs hn hsrc hfit h1 fun w' h2 h3 => hK _ _ (h w' h2 h3)
theorem step_copy_sz {ops : Array Oper} {o : Oper} {a : Act} {K : Act → World → Prop} {Q : Exit → Act → World → Prop} {E : Prop} (hgd : o.guard = none) (d s : Operand) (dT sT : TypeId)
    (ho : o.op = .call { callee := .builtin .copy, args := #[d, s], argTypes := #[dT, sT] }) (e : TypeId) (i : TypeInfo) (sz : Nat) (hu : P.underlying dT = some (.slice e)) (hi : P.info? e = some i) (hsize : i.size = sz)
    (g off dLen dCap : Nat) (ad : Addr) (sLen sCap : Nat) (hd : a.eval d = .slice (some ⟨g, off, none⟩) dLen dCap) (hs : a.eval s = .slice (some ad) sLen sCap)
    (cur : Array Value) (t : TypeId) (hg : w.heap[g]? = some (.cells cur t (0, 0))) (cs : List Value) (hn : cs.length = Nat.min sLen dLen * sz)
    (hsrc : ∀ j v, cs[j]? = some v → w.cell? (ad.add j) = some v) (hfit : off + cs.length ≤ cur.size) (h1 : ∀ v ∈ cs, v.oneCell' = true)
    (h : ∀ w', Blk w' g t (cur.toList.take off ++ cs ++ cur.toList.drop (off + cs.length)).toArray → Mod (fun b => b = g) w w' → K (a.put o.dst (goInt (Nat.min sLen dLen))) w') :
    if Region.wanted o (yielded ops a.tmps) = true then Oper.wp P o a w K Q else E := by
  have hw : Region.wanted o (yielded ops a.tmps) = true := by simp [Region.wanted, hgd]
  rw [if_pos hw]
  exact wp_copy_sz w d s dT sT ho e i sz hu hi hsize g off dLen dCap ad sLen sCap hd hs cur t hg cs hn hsrc hfit h1 h
end

theorem kept_add {w : World} {b off j : Nat} {v : Value} {o : Obj} (h : w.cell? ⟨b, off + j, none⟩ = some v) : (w.alloc o).cell? ((⟨b, off, none⟩ : Addr).add j) = some v := by
  have h2 : (⟨b, off, none⟩ : Addr).add j = ⟨b, off + j, none⟩ := by unfold Addr.add; split <;> simp_all
  rw [h2]
  exact (World.cell?_alloc_lt w _ _ (World.block_lt_of_cell? w _ h)).trans h
/-! ### Entries over and over -/
theorem flat_takeE (l : List Ent) (k : Nat) : (l.flatMap entIn).take (k * 5) = (l.take k).flatMap entIn := by
  induction l generalizing k with
  | nil => simp
  | cons o l ih =>
    rcases k with _ | k
    · simp
    · rw [show (k + 1) * 5 = k * 5 + 1 + 1 + 1 + 1 + 1 by omega]
      simp only [List.flatMap_cons, List.take_succ_cons, entIn, List.cons_append, List.nil_append]
      rw [← ih]
theorem flat_dropE (l : List Ent) (k : Nat) : (l.flatMap entIn).drop (k * 5) = (l.drop k).flatMap entIn := by
  induction l generalizing k with
  | nil => simp
  | cons o l ih =>
    rcases k with _ | k
    · simp
    · rw [show (k + 1) * 5 = k * 5 + 1 + 1 + 1 + 1 + 1 by omega]
      simp only [List.flatMap_cons, List.drop_succ_cons, entIn, List.cons_append, List.nil_append]
      rw [← ih]
theorem ent_one (l : List Ent) : ∀ v ∈ l.flatMap entIn, v.oneCell' = true := by
  intro v hv
  obtain ⟨e, _, he⟩ := List.mem_flatMap.1 hv
  simp only [entIn, List.mem_cons, List.not_mem_nil, or_false] at he
  rcases he with rfl | rfl | rfl | rfl | rfl <;> rfl
/-- A piece laid over. -/
theorem fill_lay {α : Type} {N m c : Nat} {f : Nat → α} {d : α} {src : List α} (hs : src.length = c) (hc : m + c ≤ N) (hf : ∀ i, i < c → src[i]? = some (f (m + i))) :
    (fillL N m f d).take m ++ src ++ (fillL N m f d).drop (m + c) = fillL N (m + c) f d := by
  apply List.ext_getElem?
  intro i
  by_cases hiN : i < N
  · have hr : (fillL N (m + c) f d)[i]? = some (if i < m + c then f i else d) := by rw [List.getElem?_eq_getElem (by rw [fillL_length]; exact hiN), fillL_get _ _ _ _ _ hiN]
    rw [hr, List.append_assoc]
    by_cases h1 : i < m
    · rw [List.getElem?_append_left (by rw [List.length_take, fillL_length]; omega), List.getElem?_take, if_pos h1, List.getElem?_eq_getElem (by rw [fillL_length]; exact hiN), fillL_get _ _ _ _ _ hiN, if_pos h1, if_pos (by omega)]
    · rw [List.getElem?_append_right (by rw [List.length_take, fillL_length]; omega), List.length_take, fillL_length, Nat.min_eq_left (by omega)]
      by_cases h2 : i < m + c
      · rw [List.getElem?_append_left (by omega), hf _ (by omega), if_pos h2, show m + (i - m) = i by omega]
      · rw [List.getElem?_append_right (by omega), List.getElem?_drop, hs, show m + c + (i - m - c) = i by omega, List.getElem?_eq_getElem (by rw [fillL_length]; exact hiN), fillL_get _ _ _ _ _ hiN, if_neg h1, if_neg h2]
  · rw [List.getElem?_eq_none (by simp [fillL_length, hs]; omega), List.getElem?_eq_none (by rw [fillL_length]; omega)]
theorem lay_cells {N m c : Nat} {f : Nat → Ent} {d : Ent} {src : List Ent} (hs : src.length = c) (hc : m + c ≤ N) (hf : ∀ i, i < c → src[i]? = some (f (m + i))) :
    ((fillL N m f d).flatMap entIn).take (m * 5) ++ src.flatMap entIn ++ ((fillL N m f d).flatMap entIn).drop (m * 5 + (src.flatMap entIn).length) = (fillL N (m + c) f d).flatMap entIn := by
  rw [flat_takeE, ent_len, hs, ← Nat.add_mul, flat_dropE, ← List.flatMap_append, ← List.flatMap_append, fill_lay hs hc hf]
/-- Entries over and over: the first N. -/
def repE (l : List Ent) (i : Nat) : Ent := (l[i % l.length]?).getD (0, 0, 0, 0, 0)
theorem repE_add (l : List Ent) (q i : Nat) : repE l (l.length * q + i) = repE l i := by
  unfold repE; rw [Nat.add_comm, Nat.add_mul_mod_self_left]
theorem repE_lt (l : List Ent) {i : Nat} (h : i < l.length) : l[i]? = some (repE l i) := by
  unfold repE; rw [Nat.mod_eq_of_lt h, List.getElem?_eq_getElem h]; rfl
end Go.Rp
namespace Go.Proofs.Ytefenbmchfbohaa
open Go.RowKit Go.Rp

set_option maxHeartbeats 1000000 in
theorem Mul64_any (x y : Nat) (hx : x < 18446744073709551616) (hy : y < 18446744073709551616) (w : World) :
    Calls Try.prog 28 #[.int .u64 x, .int .u64 y] w fun e w' => e = .returned (.tuple #[.int .u64 ((x * y / 18446744073709551616 : Nat) : Int), .int .u64 ((x * y % 18446744073709551616 : Nat) : Int)]) ∧ w = w' := by
  obtain ⟨bd, bt, bw, hhi⟩ := Lib.mul64_hi x y hx hy
  have ba := Lib.half_mul_le (a := x / 4294967296) (b := y / 4294967296) (by omega) (by omega)
  have bb := Lib.half_mul_le (a := x / 4294967296) (b := y % 4294967296) (by omega) (by omega)
  have bc := Lib.half_mul_le (a := x % 4294967296) (b := y / 4294967296) (by omega) (by omega)
  have ba' : x / 4294967296 * (y / 4294967296) < 18446744073709551616 := by omega
  have bb' : x / 4294967296 * (y % 4294967296) < 18446744073709551616 := by omega
  have bc' : x % 4294967296 * (y / 4294967296) < 18446744073709551616 := by omega
  have bh1 : x / 4294967296 * (y / 4294967296) + (x / 4294967296 * (y % 4294967296) + x % 4294967296 * (y % 4294967296) / 4294967296) / 4294967296 < 18446744073709551616 := by omega
  have bh : x / 4294967296 * (y / 4294967296) + (x / 4294967296 * (y % 4294967296) + x % 4294967296 * (y % 4294967296) / 4294967296) / 4294967296 + ((x / 4294967296 * (y % 4294967296) + x % 4294967296 * (y % 4294967296) / 4294967296) % 4294967296 + x % 4294967296 * (y / 4294967296)) / 4294967296 < 18446744073709551616 := by omega
  go_enter Try.func28, Try.ntmps28
  go_wp2
  simp only [Mul64.maskN x hx, Mul64.maskN y hy, Mul64.divN, Mul64.mulN, Mul64.addN, Mul64.wrapN _ bd, Mul64.wrapN _ bb', Mul64.wrapN _ bt, Mul64.maskN _ bt, Mul64.wrapN _ bc', Mul64.wrapN _ bw, Mul64.wrapN _ ba', Mul64.wrapN _ bh1, Mul64.wrapN _ bh, Mul64.wrapM (x * y)]
  rw [hhi]
  go_ret2
  exact ⟨rfl, rfl⟩
theorem Mul_any (x y : Nat) (hx : x ≤ 100000) (hy : y ≤ 100000) {q : Nat} (hq : x * y = q) (w : World) :
    Calls Try.prog 26 #[.int .u64 x, .int .u64 y] w fun e w' => e = .returned (.tuple #[.int .u64 0, .int .u64 (q : Int)]) ∧ w = w' := by
  have h := Mul64_any x y (by omega) (by omega) w
  have hq2 : q ≤ 10000000000 := by rw [← hq]; exact Nat.mul_le_mul hx hy
  rw [hq, Nat.div_eq_of_lt (by omega), Nat.mod_eq_of_lt (by omega)] at h
  clear hq
  go_enter Try.func26, Try.ntmps26
  go_wp2_with fail
  refine h.mono ?_
  rintro e w' ⟨rfl, rfl⟩
  go_wp2_with fail
  go_ret2
  exact ⟨rfl, rfl⟩

theorem info_ent : (Try.prog.info? 30).map (fun i => (i.zero, i.size, i.bytes)) = some (some (.agg #[.int .u8 0, .int .i64 0, .int .u8 0, .int .i32 0, .int .u8 0]), 5, 32) := by kernel_rfl
theorem rep_ent (n : Nat) : (List.replicate n ((#[Value.int .u8 0, Value.int .i64 0, Value.int .u8 0, Value.int .i32 0, Value.int .u8 0] : Array Value).toList)).flatten = (List.replicate n ((0, 0, 0, 0, 0) : Ent)).flatMap entIn := by
  induction n with
  | zero => rfl
  | succ n ih => rw [List.replicate_succ, List.replicate_succ, List.flatten_cons, List.flatMap_cons, ih]; rfl

set_option maxRecDepth 100000 in
set_option maxHeartbeats 2000000 in
theorem Repeat_any (w : World) (A : Option Addr) (n c k N : Nat) (R : Nat → Prop) (l : List Ent) (hn : l.length = n) (hr : Rd w R 5 A n (l.flatMap entIn)) (h0 : 0 < n) (hk0 : 0 < k) (hn1 : n ≤ 20000) (hk1 : k ≤ 20000) (hN : n * k = N) (hN1 : N ≤ 20000) :
    Calls Try.prog 23 #[.slice A n c, .int .i64 (k : Int)] w (NewSl w 30 5 N (((List.range N).map (repE l)).flatMap entIn)) := by
  obtain ⟨i0, hi0, hz0, hz1, hz2⟩ := info_parts info_ent
  have hm := Mul_any n k (by omega) (by omega) hN w
  have hnN : n ≤ N := by rw [← hN]; exact Nat.le_mul_of_pos_right _ hk0
  have HN := Lib.hid hN
  have HL := Lib.hid hn
  clear hN hn
  obtain ⟨b, off, rfl, hbR, hcells⟩ := hr.at h0
  have HC := Lib.hid hcells
  clear hcells
  have hmn : Nat.min n N = n := Nat.min_eq_left hnN
  go_enter Try.func23, Try.ntmps23
  go_wp2_with fail
  refine hm.mono ?_
  rintro e w1 ⟨rfl, rfl⟩
  clear hm
  have hn5 : n * 5 ≤ N * 5 := Nat.mul_le_mul_right _ hnN
  go_wp2_with (first
    | (refine wpList_make_any _ rfl (.tmp 29) (.tmp 29) 22 rfl 30 i0 _ 5 32 Try.underlying22 hi0 hz0 hz1 hz2 rfl (by omega) .i64 .i64 N rfl rfl (by omega) (by omega) ?_; intro arr harr; have hsz : arr.size = N * 5 := (by rw [← Array.length_toList, harr]; simp; rfl); have hbk : Blk (w.alloc (.cells arr 30)) w.heap.size 30 arr := Blk.new w _ _; have hsr : ∀ j v, (l.flatMap entIn)[j]? = some v → (w.alloc (.cells arr 30)).cell? ((⟨b, off, none⟩ : Addr).add j) = some v := (fun j v hv => kept_add (HC.out j v hv)); have HS := Lib.hid hsr; have HB := Lib.hid hbk; have HZ := Lib.hid hsz; have HR := Lib.hid harr; clear hsr hbk hsz harr)
    | (refine wpList_copy_sz _ rfl (.tmp 31) (.tmp 32) _ _ rfl 30 i0 5 Try.underlying22 hi0 hz1 w.heap.size 0 N N ⟨b, off, none⟩ n c rfl rfl arr 30 HB.out (l.flatMap entIn) (by rw [ent_len, HL.out, hmn]) HS.out (by rw [ent_len, HL.out, HZ.out, Nat.zero_add]; exact hn5) (ent_one l) ?_; intro w2 hb2 hm2; rw [hmn]))
  have hb3 : Blk w2 w.heap.size 30 ((fillL N n (repE l) (0, 0, 0, 0, 0)).flatMap entIn).toArray := by
    have e0 : arr.toList = (fillL N 0 (repE l) (0, 0, 0, 0, 0)).flatMap entIn := by rw [fillL_zero, ← rep_ent]; exact HR.out
    have e1 := lay_cells (d := (0, 0, 0, 0, 0)) (N := N) (m := 0) (f := repE l) HL.out (by omega) (fun i hi => by rw [Nat.zero_add]; exact repE_lt l (by rw [HL.out]; exact hi))
    rw [← e0, Nat.zero_mul] at e1
    rw [e1, Nat.zero_add] at hb2
    exact hb2
  have hbl : Below w.heap.size w w2 := ((Below.refl _ w).alloc (Nat.le_refl _) _).trans (hm2.below (by simp) fun b hb => by subst hb; exact Nat.le_refl _)
  have HD : Hid (n ∣ N) := Lib.hid ⟨k, HN.out.symm⟩
  clear hb2 hm2 HR HZ HB HS hmn hn5 HC
  go_loopg [8] N (fun gk v wr => ∃ m : Nat, N ≤ m + gk ∧ m ≤ N ∧ n ≤ m ∧ Hid (n ∣ m) ∧ v = .int .i64 (m : Int) ∧ Blk wr w.heap.size 30 ((fillL N m (repE l) (0, 0, 0, 0, 0)).flatMap entIn).toArray ∧ Below w.heap.size w wr)
  case atStart => exact ⟨n, by omega, hnN, Nat.le_refl _, Lib.hid (Nat.dvd_refl n), rfl, hb3, hbl⟩
  case round =>
    obtain ⟨m, hm, hmN, hnm, hd, rfl, hb4, hbl4⟩ := hrel
    by_cases hlt : m < N
    · obtain ⟨cc, hcc⟩ : ∃ cc, Nat.min m (N - m) = cc := ⟨_, rfl⟩
      have hc1 : cc ≤ m := by rw [← hcc]; exact Nat.min_le_left _ _
      have hc2 : cc ≤ N - m := by rw [← hcc]; exact Nat.min_le_right _ _
      have hmc : ¬ N = m := by omega
      have hcl : ((fillL N m (repE l) (0, 0, 0, 0, 0)).take cc).length = cc := by rw [List.length_take, fillL_length]; omega
      have hf : ∀ i, i < cc → ((fillL N m (repE l) ((0, 0, 0, 0, 0) : Ent)).take cc)[i]? = some (repE l (m + i)) := fun i hi => by
        obtain ⟨q, hq⟩ := hd.out
        rw [List.getElem?_take, if_pos hi, List.getElem?_eq_getElem (by rw [fillL_length]; omega), fillL_get _ _ _ _ _ (by omega), if_pos (by omega), hq]
        rw [← HL.out, repE_add]
      have hd2 : Hid (n ∣ m + cc) := Lib.hid (by
        rcases Nat.le_total m (N - m) with h | h
        · have : cc = m := by rw [← hcc]; exact Nat.min_eq_left h
          rw [this]; exact Nat.dvd_add hd.out hd.out
        · have : m + cc = N := by rw [← hcc, show Nat.min m (N - m) = N - m from Nat.min_eq_right h]; omega
          rw [this]; exact HD.out)
      have hlay := lay_cells (d := (0, 0, 0, 0, 0)) (N := N) (m := m) hcl (by omega) hf
      have hsr : ∀ j v, (((fillL N m (repE l) ((0, 0, 0, 0, 0) : Ent)).take cc).flatMap entIn)[j]? = some v → wr.drew.cell? ((⟨w.heap.size, 0, none⟩ : Addr).add j) = some v := fun j v hv => by
        have h2 : (⟨w.heap.size, 0, none⟩ : Addr).add j = ⟨w.heap.size, j, none⟩ := by unfold Addr.add; split <;> simp_all
        rw [h2]
        have h3 := (hb4.drew).cell j
        rw [h3, ← flat_takeE, List.getElem?_take] at *
        split at hv
        · simpa using hv
        · cases hv
      have hsz5 : (m * 5 + (((fillL N m (repE l) ((0, 0, 0, 0, 0) : Ent)).take cc).flatMap entIn).length) ≤ (((fillL N m (repE l) ((0, 0, 0, 0, 0) : Ent)).flatMap entIn).toArray).size := by
        rw [ent_len, hcl, List.size_toArray, ent_len, fillL_length]; omega
      have hl5 : (((fillL N m (repE l) ((0, 0, 0, 0, 0) : Ent)).take cc).flatMap entIn).length = Nat.min m (N - m) * 5 := by rw [ent_len, hcl, hcc]
      have HLAY := Lib.hid hlay
      have HSR := Lib.hid hsr
      have HS5 := Lib.hid hsz5
      have HL5 := Lib.hid hl5
      have HCC := Lib.hid hcc
      have hone := ent_one ((fillL N m (repE l) ((0, 0, 0, 0, 0) : Ent)).take cc)
      have HONE := Lib.hid hone
      have hmN' : (m : Int) ≤ (N : Int) := by omega
      have hpos : 0 < cc := by rw [← hcc]; exact Nat.lt_min.2 ⟨by omega, by omega⟩
      clear hlay hsr hsz5 hl5 hf hcl hcc hone
      go_wp2_with fail
      go_region_law (refine step_copy_sz _ rfl (.tmp 41) (.tmp 44) _ _ rfl 30 i0 5 Try.underlying22 hi0 hz1 w.heap.size (m * 5) (N - m) (N - m) ⟨w.heap.size, 0, none⟩ m N (by rfl) (by go_simp) ((fillL N m (repE l) ((0, 0, 0, 0, 0) : Ent)).flatMap entIn).toArray 30 (by exact hb4.drew) (((fillL N m (repE l) ((0, 0, 0, 0, 0) : Ent)).take cc).flatMap entIn) HL5.out HSR.out HS5.out HONE.out ?_; intro w3 hb3 hm3; rw [HCC.out])
      have hb5 : Blk w3 w.heap.size 30 ((fillL N (m + cc) (repE l) (0, 0, 0, 0, 0)).flatMap entIn).toArray := by
        have e := HLAY.out
        rw [show ((fillL N m (repE l) ((0, 0, 0, 0, 0) : Ent)).flatMap entIn) = (((fillL N m (repE l) ((0, 0, 0, 0, 0) : Ent)).flatMap entIn).toArray).toList from rfl] at e
        rw [e] at hb3
        exact hb3
      have hbl5 : Below w.heap.size w w3 := hbl4.drew.trans (hm3.below (by have := hbl4.size; exact this) fun b hb => by subst hb; exact Nat.le_refl _)
      have hs1 : IntKind.i64.wrap ((m : Int) + (cc : Int)) = (m : Int) + (cc : Int) := IntWalk.i64_in _ (by omega)
      clear hb3 hm3 HLAY HSR HS5 HL5 HONE hb4 hbl4
      go_wp2_with fail
      go_roundg (gk - 1)
      case measure => omega
      case rel => exact ⟨m + cc, by omega, by omega, by omega, hd2, by go_num, hb5, hbl5⟩
    · obtain rfl : m = N := by omega
      have hfin : (fillL m m (repE l) ((0, 0, 0, 0, 0) : Ent)) = (List.range m).map (repE l) := fillL_full _ _ _
      rw [hfin] at hb4
      have hfl : (((List.range m).map (repE l)).flatMap entIn).length = m * 5 := by rw [ent_len]; simp
      have hlt5 := hb4.lt
      have hsl := Sl.of_blk (S := fun b => w.heap.size ≤ b ∧ b < wr.heap.size) (sz := 5) hb4 ⟨Nat.le_refl _, hlt5⟩ m m (Nat.le_refl _) (by unfold maxLen; omega) (by simpa using hfl)
      rw [show (((List.range m).map (repE l)).flatMap entIn).toArray.toList = ((List.range m).map (repE l)).flatMap entIn from rfl, List.take_of_length_le (by rw [hfl]; exact Nat.le_refl _)] at hsl
      clear hb4 hfin hfl
      go_wp2_with fail
      go_ret
      exact ⟨_, m, rfl, hsl, hbl4⟩
end Go.Proofs.Ytefenbmchfbohaa
