/- The records: plain Lean, and the walks of wal.Records, wal.put, the document's Records and alike (the bytes readable, each a byte). -/
import Derived.Test.YthlcognpfangkaaSp
import Derived.Test.YthlcognpfangkaaLwCrc
import Derived.Lib.ConvBytes
namespace Go.Proofs.Ythlcognpfangkaa
open Go.RowKit
set_option linter.unusedVariables false
set_option linter.unusedSimpArgs false

/-- A record on the tape. -/
def recL (s : List Int) : List Int := sealL (be 2 s.length ++ s)
theorem recL_length (s : List Int) : (recL s).length = s.length + 6 := by
  unfold recL
  rw [sealL_length, List.length_append, be_length]; omega
/-- The text that is read at a place. -/
noncomputable def txt (l : List Int) (a : Nat) : List Int := (textS l a (-1) 16384).1
def cutL (l : List Int) (a e : Nat) : List Int := (l.take e).drop a

theorem vb_two (l : List Int) (hb : isBytes l) (h : l.length = 2) : l = be 2 (vb l) := by
  match l, h with
  | [x, y], _ =>
    have hx := hb x (by simp)
    have hy := hb y (by simp)
    have e : vb [x, y] = x * 256 + y := by unfold vb; simp [vStep]; omega
    rw [e]
    unfold be be be
    simp
    omega

/-- What is told of a text that is not empty. -/
theorem txt_yes {l : List Int} (hb : isBytes l) {a : Nat} (h : txt l a ≠ []) :
    a + 2 + (txt l a).length ≤ l.length ∧ (txt l a).length ≤ 16384 ∧ cutL l a (a + 2 + (txt l a).length) = be 2 (txt l a).length ++ txt l a ∧ (textS l a (-1) 16384).2 = (a + 2 + (txt l a).length, -1) := by
  have he : textS l a (-1) 16384 = (if a + 2 ≤ l.length ∧ textN l a ≤ (16384 : Int) ∧ a + 2 + textN l a ≤ l.length then ((l.drop (a + 2)).take (textN l a), a + 2 + textN l a, -1) else ([], a, (a : Int))) := by
    unfold textS
    rw [if_pos rfl]
  by_cases hc : a + 2 ≤ l.length ∧ textN l a ≤ (16384 : Int) ∧ a + 2 + textN l a ≤ l.length
  · rw [if_pos hc] at he
    have ht : txt l a = (l.drop (a + 2)).take (textN l a) := by unfold txt; rw [he]
    have hlen : (txt l a).length = textN l a := by rw [ht, List.length_take, List.length_drop]; omega
    have h2l : ((l.drop a).take 2).length = 2 := by rw [List.length_take, List.length_drop]; omega
    have h2 := vb_two ((l.drop a).take 2) (fun x hx => hb x (List.mem_of_mem_drop (List.mem_of_mem_take hx))) h2l
    have hv := (textN_le hb a hc.1)
    have hn0 := (wNum_vb ((l.drop a).take 2) (cut_bytes hb a 2) (by omega)).2.1
    have hvn : vb ((l.drop a).take 2) = (textN l a : Int) := by unfold textN; omega
    refine ⟨by omega, by omega, ?_, by rw [he, hlen]⟩
    rw [hlen]
    unfold cutL
    rw [List.drop_take, show a + 2 + textN l a - a = 2 + textN l a by omega, List.take_add, ← hvn, ← h2, List.drop_drop, ht]
  · rw [if_neg hc] at he
    exact absurd (by unfold txt; rw [he]) h

/-- Read in what is behind a place: the same text. -/
theorem txt_drop (l : List Int) (a : Nat) (h : a ≤ l.length) : (textS (l.drop a) 0 (-1) 16384).1 = txt l a := by
  unfold txt textS textN
  rw [if_pos rfl, if_pos rfl]
  simp only [Nat.zero_add, Nat.add_zero, List.drop_drop, List.length_drop]
  by_cases hc : a + 2 ≤ l.length ∧ ((vb ((l.drop a).take 2)).toNat : Int) ≤ 16384 ∧ a + 2 + (vb ((l.drop a).take 2)).toNat ≤ l.length
  · rw [if_pos hc, if_pos ⟨by omega, hc.2.1, by omega⟩]
  · rw [if_neg hc, if_neg (fun h2 => hc ⟨by omega, h2.2.1, by omega⟩)]

/-- There is a record. -/
def good (l : List Int) (a : Nat) : Prop := txt l a ≠ [] ∧ a + 6 + (txt l a).length ≤ l.length ∧ cutL l a (a + 6 + (txt l a).length) = recL (txt l a)
noncomputable def nxt (l : List Int) (a : Nat) : Nat := a + 6 + (txt l a).length
open Classical in
/-- The records from a place on, and where they end. -/
noncomputable def recs (l : List Int) : Nat → Nat → List (List Int) × Nat
  | 0, a => ([], a)
  | k + 1, a => if good l a then (txt l a :: (recs l k (nxt l a)).1, (recs l k (nxt l a)).2) else ([], a)
theorem recs_no {l : List Int} {k a : Nat} (h : ¬ good l a) : recs l k a = ([], a) := by
  cases k with
  | zero => rfl
  | succ k => unfold recs; rw [if_neg h]
theorem recs_yes {l : List Int} {k a : Nat} (h : good l a) : recs l (k + 1) a = (txt l a :: (recs l k (nxt l a)).1, (recs l k (nxt l a)).2) := by
  rw [recs, if_pos h]
theorem g_le {l : List Int} {a : Nat} (h : good l a) : a + 6 ≤ l.length := by have := h.2.1; omega
theorem nxt_lt {l : List Int} {a : Nat} (h : good l a) : a < nxt l a ∧ nxt l a ≤ l.length := ⟨by unfold nxt; omega, h.2.1⟩
theorem recs_fuel (l : List Int) : ∀ (k k' a : Nat), l.length < a + k → l.length < a + k' → recs l k a = recs l k' a := by
  intro k
  induction k with
  | zero =>
    intro k' a h1 h2
    have hg : ¬ good l a := fun g => by have := g.2.1; omega
    rw [recs_no hg, recs_no hg]
  | succ k ih =>
    intro k' a h1 h2
    by_cases hg : good l a
    · cases k' with
      | zero => have := g_le hg; omega
      | succ k' =>
        have := nxt_lt hg
        rw [recs_yes hg, recs_yes hg, ih k' (nxt l a) (by omega) (by omega)]
    · rw [recs_no hg, recs_no hg]
/-- The records from a place on, and where they end. -/
noncomputable def RS (l : List Int) (a : Nat) : List (List Int) × Nat := recs l (l.length + 1) a
theorem RS_no {l : List Int} {a : Nat} (h : ¬ good l a) : RS l a = ([], a) := recs_no h
theorem RS_yes {l : List Int} {a : Nat} (h : good l a) : RS l a = (txt l a :: (RS l (nxt l a)).1, (RS l (nxt l a)).2) := by
  have := nxt_lt h
  unfold RS
  rw [recs_yes h, recs_fuel l l.length (l.length + 1) (nxt l a) (by omega) (by omega)]
/-- The first bytes of a piece with a sum: the program's way to ask. -/
theorem good_crc {l : List Int} (hb : isBytes l) {a : Nat} (h : txt l a ≠ []) (h2 : a + 6 + (txt l a).length ≤ l.length) :
    (cutL l a (a + 6 + (txt l a).length)).length = (txt l a).length + 6 ∧ ((cutL l a (a + 6 + (txt l a).length)) = sealL ((cutL l a (a + 6 + (txt l a).length)).take ((cutL l a (a + 6 + (txt l a).length)).length - 4)) ↔ good l a) := by
  have hl : (cutL l a (a + 6 + (txt l a).length)).length = (txt l a).length + 6 := by unfold cutL; rw [List.length_drop, List.length_take]; omega
  have ht : (cutL l a (a + 6 + (txt l a).length)).take ((cutL l a (a + 6 + (txt l a).length)).length - 4) = be 2 (txt l a).length ++ txt l a := by
    rw [hl, ← (txt_yes hb h).2.2.1]
    unfold cutL
    rw [List.take_drop, List.take_take]
    congr 2
    omega
  refine ⟨hl, ?_⟩
  rw [ht]
  exact ⟨fun e => ⟨h, h2, e⟩, fun g => g.2.2⟩
theorem cut_isBytes {l : List Int} (hb : isBytes l) (a e : Nat) : isBytes (cutL l a e) := fun x hx => hb x (List.mem_of_mem_take (List.mem_of_mem_drop hx))
theorem txt_isBytes {l : List Int} (hb : isBytes l) (a : Nat) : isBytes (txt l a) := by
  intro x hx
  unfold txt textS at hx
  rw [if_pos rfl] at hx
  split at hx
  · exact hb x (List.mem_of_mem_drop (List.mem_of_mem_take hx))
  · cases hx
theorem recL_isBytes {s : List Int} (hs : isBytes s) : isBytes (recL s) := sealL_range _ (fun c hc => by
  rw [List.mem_append] at hc
  rcases hc with hc | hc
  · exact be_range _ _ c hc
  · exact hs c hc)

end Go.Proofs.Ythlcognpfangkaa

namespace Go.Proofs.Ythlcognpfangkaa
open Go.RowKit Go.Proofs.YthlcognpfangkaaW.PrintWords Go.Proofs.YthlcognpfangkaaW.PrintLast Go.Proofs.YthlcognpfangkaaW.PrintMore
set_option linter.unusedVariables false
set_option linter.unusedSimpArgs false

theorem bytesOf_str {l : List Int} (hl : isBytes l) : bytesOf (strOfNums l) = l := by
  unfold bytesOf strOfNums
  rw [List.toList_toArray, List.map_map]
  conv => rhs; rw [← List.map_id l]
  refine List.map_congr_left fun x hx => ?_
  have h := hl x hx
  show ((UInt8.ofNat _).toNat : Int) = x
  simp
  omega
/-- '[]byte(s)': the world behind it, and the bytes there. -/
theorem sb_reads (w : World) (l : List Int) (hl : isBytes l) (hn : l.length ≤ 9223372036854775807) : Kd.C (Kd.int .u8) (Lib.bytesWorld w 5 (strOfNums l)) (some ⟨w.heap.size, 0, none⟩) l.length l := by
  have h := bytes_reads w 5 (strOfNums l) (by rw [strOfNums_size]; exact hn)
  rw [bytesOf_str hl, strOfNums_size] at h
  exact Kd.C_of_reads (d := (0 : Int)) (h1 := fun _ => rfl) h
theorem Fr.bytes {S : Nat → Prop} {w W : World} (h : Fr S w W) (s : ByteArray) : Fr S w (Lib.bytesWorld W 5 s) := h.then_below (bytes_below (Below.refl _ _) (Nat.le_refl _) 5 s)
/-- '[]byte(s)' as a walk meets it. -/
theorem conv_sb (w : World) (s : ByteArray) : (convert 9 47 (.string s)).run Try.prog w = .ok (.slice (some ⟨w.heap.size, 0, none⟩) s.size (grownCap w s.size 0 5)) (Lib.bytesWorld w 5 s) := Lib.run_convert_string_bytes w 9 47 5 s Try.underlying9 Try.underlying47 Try.underlying5

theorem record_calls (w : World) (s : List Int) (hs : isBytes s) (hn : s.length ≤ 65535) :
    Calls Try.prog 94 #[.string (strOfNums s)] w fun e w' => e = .returned (.string (strOfNums (recL s))) ∧ Fr No w w' := by
  have HS := Aside0.mk hs
  have kc := fun (w : World) => conv_sb w (strOfNums s)
  have hz := strOfNums_size s
  rw [hz] at kc
  have hb : isBytes (be 2 s.length ++ s) := fun c hc => (List.mem_append.1 hc).elim (be_range _ _ c) (hs c)
  have hln : (be 2 s.length ++ s).length = s.length + 2 := by rw [List.length_append, be_length]; omega
  unfold recL
  generalize hq : be 2 s.length ++ s = q at hb hln
  have HB := Aside0.mk hb
  have HLN := Aside0.mk hln
  have HQ := Aside0.mk hq
  clear hb hln hq
  generalize hsx : strOfNums (sealL q) = sx
  have HSX := Aside0.mk hsx
  clear hsx
  clear hs hz
  go_enter Try.func94, Try.ntmps94
  go_wp2_with (fail)
  refine (rtext_calls _ (some ⟨w.heap.size, 0, none⟩) _ s (sb_reads w s HS.out (Nat.le_trans hn (by omega))) (grownCap_ge _ _ _ _) hn).mono ?_
  rw [HQ.out]
  rintro e w1 ⟨v1, rfl, hr1, hf⟩
  have F1 := Aside0.mk (((Fr.refl No w).bytes (strOfNums s)).on hf)
  obtain ⟨A1, c1, e1, hc1, hrd1⟩ := R_out hr1
  subst e1
  have RD1 := Aside0.mk hrd1
  have HC1 := Aside0.mk hc1
  clear hr1 hf hc1 hrd1 kc
  go_wp2_with (fail)
  refine (rseal_calls _ A1 c1 q RD1.out HC1.out HB.out (by rw [HLN.out]; omega)).mono ?_
  rintro e w2 ⟨v2, rfl, hr2, hf⟩
  have F2 := Aside0.mk (F1.out.on hf)
  obtain ⟨A2, c2, e2, _, hrd2⟩ := R_out hr2
  subst e2
  have cv2 := cv (c := c2) hrd2
  rw [HSX.out] at cv2
  generalize (sealL q).length = n2 at cv2 ⊢
  clear hr2 hf hrd2
  go_wp2
  go_ret
  exact ⟨rfl, F2.out⟩

theorem walput_calls (w : World) (B : Option Addr) (d : Nat) (s : List Int) (hr : Kd.C (Kd.int .u8) w B s.length s) (hd : s.length ≤ d) (hs : isBytes s) (hn : s.length ≤ 65535) :
    Calls Try.prog 95 #[.slice B s.length d] w fun e w' => ∃ v, e = .returned v ∧ Kd.R (Kd.int .u8) 5 w' w.heap.size (fun _ => True) v (recL s) ∧ Fr No w w' := by
  have HR := Aside0.mk hr
  have HD := Aside0.mk hd
  have hb : isBytes (be 2 s.length ++ s) := fun c hc => (List.mem_append.1 hc).elim (be_range _ _ c) (hs c)
  have hln : (be 2 s.length ++ s).length = s.length + 2 := by rw [List.length_append, be_length]; omega
  unfold recL
  generalize hq : be 2 s.length ++ s = q at hb hln
  have HB := Aside0.mk hb
  have HLN := Aside0.mk hln
  have HQ := Aside0.mk hq
  clear hb hln hq
  clear hr hd hs
  go_enter Try.func95, Try.ntmps95
  go_wp2_with (fail)
  refine (textp_yes _ none 0 [] B d s ⟨rfl, by simp, fun hn => absurd hn (by simp)⟩ (by simp) HR.out HD.out hn (by show 0 + 65600 < 140737488355328; omega)).mono ?_
  rw [List.nil_append, HQ.out]
  rintro e w1 ⟨v1, rfl, hr1, hf⟩
  have F1 := Aside0.mk hf
  obtain ⟨A1, c1, e1, hc1, hrd1⟩ := R_out hr1
  subst e1
  have RD1 := Aside0.mk hrd1
  have HC1 := Aside0.mk hc1
  clear hr1 hf hc1 hrd1
  go_wp2_with (fail)
  refine (seal_calls _ A1 c1 q RD1.out HC1.out HB.out (by rw [HLN.out]; omega)).mono ?_
  rintro e w2 ⟨v2, rfl, hr2, hf⟩
  have F2 := Aside0.mk (F1.out.on hf)
  have R2 := Aside0.mk (Kd.R_lower hr2 F1.out.size)
  clear hr2 hf
  go_wp2
  go_ret
  exact ⟨v2, rfl, R2.out, F2.out⟩

end Go.Proofs.Ythlcognpfangkaa

namespace Go.Proofs.Ythlcognpfangkaa
open Go.RowKit Go.Proofs.YthlcognpfangkaaW.PrintWords Go.Proofs.YthlcognpfangkaaW.PrintLast Go.Proofs.YthlcognpfangkaaW.PrintMore
set_option linter.unusedVariables false
set_option linter.unusedSimpArgs false

theorem info47 : (Try.prog.info? 47).map (fun i => (i.zero, i.size, i.bytes)) = some (some (.slice none 0 0), 1, 24) := by kernel_rfl
/-- Rows of bytes. -/
abbrev KB : Kd (List Int) := Kd.slice 5 (Kd.int .u8)
theorem KB_M {w : World} {base : Nat} {ok : Nat → Prop} {xs : List Int} {v : Value} (h : Kd.R (Kd.int .u8) 5 w base ok v xs) : KB.M w base ok xs [v] := (⟨v, rfl, h⟩ : ∃ v', [v] = [v'] ∧ Kd.R (Kd.int .u8) 5 w base ok v' xs)
theorem KB_sz : 0 < KB.sz := Nat.one_pos
section
variable {ops : Array Oper} {rest : List Oper} {o : Oper} {a : Act} {Q : Exit → Act → World → Prop}
/-- append(out, s): s's row was made behind out. -/
theorem app_row {W : World} (base : Nat) (hgd : o.guard = none) (s x : Tmp) (ho : o.op = .call { callee := .builtin .append, args := #[.tmp s, .tmp x], argTypes := #[99, 99] })
    (v : Value) (xs : List (List Int)) (p : List Int) (sv : Value) (hs : a.eval (.tmp s) = v) (hx : a.eval (.tmp x) = .slice (some ⟨W.heap.size, 0, none⟩) 1 1) (hp : Kd.R (Kd.int .u8) 5 W base (fun k => True ∧ some k ≠ v.ownBlock) sv p)
    (HO : Kd.R KB 47 W base (fun _ => True) v xs) (hbase : base ≤ W.heap.size) (hl : (xs.length + 1) * 24 ≤ 140737488355328)
    (h : ∀ v1 w1, Kd.R KB 47 w1 base (fun _ => True) v1 (xs ++ [p]) → W.grownBy w1 v.ownBlock → wpList Try.prog ops Q rest (a.put o.dst v1) w1) : wpList Try.prog ops Q (o :: rest) a (W.alloc (.cells #[sv] 47)) :=
  Kd.R_append KB (w0 := W) base hgd (.tmp s) (.tmp x) 99 47 (.slice none 0 0) 24 ho Try.underlying99 info47 rfl KB_sz (by omega) v xs p [sv] (fun _ => True) (fun k => True ∧ some k ≠ v.ownBlock) hs hx (KB_M hp) (fun _ hk => hk) (fun _ _ => trivial) HO (Below.refl _ _) hbase hl (fun v1 w1 h1 _ h2 _ => h v1 w1 h1 h2)
end

set_option maxHeartbeats 8000000 in
set_option maxRecDepth 100000 in
theorem records_calls (w : World) (A : Option Addr) (c : Nat) (l : List Int) (hr : Kd.C (Kd.int .u8) w A l.length l) (hc : l.length ≤ c) (hl : isBytes l) (hn : l.length ≤ 1048576) :
    Calls Try.prog 68 #[.slice A l.length c] w fun e w' => ∃ v, e = .returned (.tuple #[v, .int .i64 (RS l 0).2]) ∧ Kd.R KB 47 w' w.heap.size (fun _ => True) v (RS l 0).1 ∧ Fr No w w' := by
  have HR := Aside0.mk hr
  have HC := Aside0.mk hc
  have HL := Aside0.mk hl
  obtain ⟨i0, hi, hz0, hz1, hz2⟩ := info_parts PWordPuts.info5
  have HI := Aside0.mk (And.intro hi hz1)
  clear hr hc hl hz0 hz2 hi hz1
  go_enter Try.func68, Try.ntmps68
  go_wp2_with (fail)
  go_loopg [4, 5] l.length (fun kq v4 v5 w' => ∃ (a : Nat) (o : List (List Int)), a + kq = l.length ∧ v5 = .int .i64 a ∧ Aside0 (RS l 0 = (o ++ (RS l a).1, (RS l a).2)) ∧ Aside0 (Kd.R KB 47 w' w.heap.size (fun _ => True) v4 o ∧ o.length ≤ a) ∧ Aside0 (Fr No w w'))
  case atStart => exact ⟨0, [], by omega, rfl, ⟨rfl⟩, ⟨Kd.R_nil _ _ _ _ _, by simp⟩, ⟨Fr.refl _ _⟩⟩
  case round =>
    obtain ⟨a, o, ha, rfl, RSE, OO, FF⟩ := hrel
    have hcut := cut_from (P := Try.prog) 47 5 .i64 Try.underlying47 HI.out.1 1 HI.out.2 A l.length c (a : Int) (by omega) (by omega)
    rw [Int.toNat_natCast] at hcut
    have hcd := Kd.C_drop (C_on HR.out FF.out) (m := a) (by omega) HC.out
    change Kd.C (Kd.int .u8) wr (if c = a then A else A.map (·.add (a * 1))) _ _ at hcd
    generalize (if c = a then A else A.map (·.add (a * 1))) = A1 at hcut hcd
    have hql : (l.drop a).length = l.length - a := List.length_drop
    have htx := txt_drop l a (by omega)
    have HQB := Aside0.mk (show isBytes (l.drop a) from fun x hx => HL.out x (List.mem_of_mem_drop hx))
    generalize l.drop a = q at hcd hql htx HQB
    rw [← hql] at hcut
    have HCD := Aside0.mk hcd
    have HQL := Aside0.mk hql
    have HTX := Aside0.mk htx
    clear hcd hql htx
    go_wp2_with (fail)
    refine (read_calls _ A1 q.length (c - a)).mono ?_
    rintro e w2 ⟨g, rfl, hg, hb, hf⟩
    have F2 := Aside0.mk hf
    have B2 := Aside0.mk hb
    have G2 := Aside0.mk hg
    clear hg hb hf hcut
    go_wp2_with (fail)
    have hsn := textS_len q 0 (-1) 16384
    rw [HTX.out, HQL.out] at hsn
    refine (text_any wr w2 g A1 (c - a) q 0 (-1) 16384 F2.out.no (by rw [G2.out]; exact Nat.le_refl _) HCD.out (by rw [HQL.out]; have := HC.out; omega) HQB.out (by rw [HQL.out]; omega) B2.out ⟨Nat.zero_le _, .inl rfl⟩).mono ?_
    rw [HTX.out]
    rintro e w3 ⟨v3, rfl, hr3, hb3, hf3⟩
    have F3 := Aside0.mk (F2.out.trans hf3 (fun k (hk : k = g) => .inr (by rw [hk, G2.out]; exact Nat.le_refl _)))
    have R3 := Aside0.mk (Kd.R_lower hr3 F2.out.size)
    obtain ⟨A3, c3, e3, _, _⟩ := R_out hr3
    subst e3
    clear hb3 hf3
    have hgo := fun h => @txt_yes l HL.out a h
    have hgg := fun h h2 => @good_crc l HL.out a h h2
    have hng : txt l a = [] → ¬ good l a := fun e g => g.1 e
    have hng2 : ¬ (a + 6 + (txt l a).length ≤ l.length) → ¬ good l a := fun e g => e g.2.1
    have hnx : nxt l a = a + 6 + (txt l a).length := rfl
    have HYES := Aside0.mk (@RS_yes l a)
    have HNO := Aside0.mk (@RS_no l a)
    generalize txt l a = s at R3 hr3 hsn hgo hgg hng hng2 hnx HYES ⊢
    by_cases hs0 : s = []
    · have hg := hng hs0
      have hrs := HNO.out hg
      subst hs0
      clear hgo hgg hng hng2
      have hret : RS l 0 = (o, a) := by rw [RSE.out, hrs, List.append_nil]
      have HRET := Aside0.mk hret
      clear hret hrs
      go_wp2_with (fail)
      go_ret2
      exact ⟨u4, by rw [HRET.out]; rfl, by rw [HRET.out]; exact F3.out.Rlow OO.out.1 (fun _ h => h.elim), FF.out.on F3.out⟩
    · have hz1 : ((s.length : Int) == 0) = false := beq_eq_false_iff_ne.mpr (by have := List.length_pos_iff.mpr hs0; omega)
      have hz2 : (s.length == 0) = false := beq_eq_false_iff_ne.mpr (by have := List.length_pos_iff.mpr hs0; omega)
      by_cases hend : a + 6 + s.length ≤ l.length
      · have he1 : decide ((l.length : Int) < (a : Int) + 2 + s.length + 4) = false := decide_eq_false (by omega)
        have hcut2 := cut_mid (P := Try.prog) 47 5 .i64 .i64 Try.underlying47 HI.out.1 1 HI.out.2 A l.length c (a : Int) ((a : Int) + 2 + s.length + 4) (by omega) (by omega) (by omega) HC.out
        rw [Int.toNat_natCast, show ((a : Int) + 2 + s.length + 4).toNat - a = s.length + 6 by omega] at hcut2
        have hcm := Kd.C_mid (C_on HR.out (FF.out.on F3.out)) (lo := a) (hi := a + 6 + s.length) (by omega) hend HC.out
        change Kd.C (Kd.int .u8) w3 (if c = a then A else A.map (·.add (a * 1))) (cutL l a (a + 6 + s.length)).length (cutL l a (a + 6 + s.length)) at hcm
        obtain ⟨hxl, hxg⟩ := hgg hs0 hend
        have HXB := Aside0.mk (cut_isBytes HL.out a (a + 6 + s.length))
        generalize cutL l a (a + 6 + s.length) = x at hcm hxl hxg HXB
        generalize (if c = a then A else A.map (·.add (a * 1))) = A4 at hcut2 hcm
        have HCM := Aside0.mk hcm
        have HXL := Aside0.mk hxl
        clear hgo hgg hng hng2 hcm hxl
        by_cases hg : good l a
        · have HXE := Aside0.mk (hxg.mpr hg)
          have hrs := HYES.out hg
          clear hxg
          go_wp2_with (fail)
          refine (calls_of_args (args' := #[.slice A4 x.length (c - a)]) (by rw [HXL.out]) (open_yes _ A4 (c - a) x HCM.out (by rw [HXL.out]; have := HC.out; omega) HXB.out (by rw [HXL.out]; omega) (by rw [HXL.out]; omega) HXE.out)).mono ?_
          rintro e w4 ⟨v4, rfl, -, hf4⟩
          have F4 := Aside0.mk (F3.out.on hf4)
          have R4 := Aside0.mk (hf4.Rlow (Kd.R_newR (W := w2) hr3 (F2.out.Rlow OO.out.1 (fun _ h => h.elim))) (fun _ h => h.elim))
          clear hf4 hcut2 hr3
          go_wp2_with (first | ((with_reducible refine gate_builtin (b := .append) (xs := #[.tmp 46, .tmp 48]) rfl ?_); at_builtin; refine app_row w.heap.size rfl 46 48 rfl u4 o s (.slice A3 s.length c3) rfl rfl (Kd.R_lower R4.out (Nat.le_trans FF.out.size F2.out.size)) (F4.out.Rlow OO.out.1 (fun _ h => h.elim)) (FF.out.on F4.out).size ?aL ?_; (case aL => have := OO.out.2; omega); intro v6 w6 hr6 hg6; have R6 := Aside0.mk hr6; have F6 := Aside0.mk ((FF.out.on F4.out).own (F4.out.Rlow OO.out.1 (fun _ h => h.elim)) (Nat.le_refl _) hg6); clear hr6 hg6))
          go_wp2_with (fail)
          go_roundg (l.length - (a + 6 + s.length))
          case measure => omega
          case rel => exact ⟨a + 6 + s.length, o ++ [s], by omega, by go_num, ⟨by rw [RSE.out, hrs, hnx]; simp⟩, ⟨R6.out, by rw [List.length_append, List.length_singleton]; have := OO.out.2; omega⟩, F6⟩
        · have HXN := Aside0.mk (fun e => hg (hxg.mp e))
          have hrs := HNO.out hg
          have hret : RS l 0 = (o, a) := by rw [RSE.out, hrs, List.append_nil]
          have HRET := Aside0.mk hret
          clear hxg hret hrs
          go_wp2_with (fail)
          refine (calls_of_args (args' := #[.slice A4 x.length (c - a)]) (by rw [HXL.out]) (open_bad _ A4 (c - a) x HCM.out (by rw [HXL.out]; have := HC.out; omega) HXB.out (by rw [HXL.out]; omega) (by rw [HXL.out]; omega) HXN.out)).mono ?_
          rintro e w4 ⟨rfl, hf4⟩
          have F4 := Aside0.mk (F3.out.on hf4)
          clear hf4 hcut2
          go_wp2_with (fail)
          go_ret2
          exact ⟨u4, by rw [HRET.out]; rfl, by rw [HRET.out]; exact F4.out.Rlow OO.out.1 (fun _ h => h.elim), FF.out.on F4.out⟩
      · have he1 : decide ((l.length : Int) < (a : Int) + 2 + s.length + 4) = true := decide_eq_true (by omega)
        have hrs := HNO.out (hng2 hend)
        have hret : RS l 0 = (o, a) := by rw [RSE.out, hrs, List.append_nil]
        have HRET := Aside0.mk hret
        clear hret hrs hgo hgg hng hng2
        go_wp2_with (fail)
        go_ret2
        exact ⟨u4, by rw [HRET.out]; rfl, by rw [HRET.out]; exact F3.out.Rlow OO.out.1 (fun _ h => h.elim), FF.out.on F3.out⟩

end Go.Proofs.Ythlcognpfangkaa

namespace Go.Proofs.Ythlcognpfangkaa
open Go.RowKit Go.Proofs.YthlcognpfangkaaW.PrintWords Go.Proofs.YthlcognpfangkaaW.PrintLast Go.Proofs.YthlcognpfangkaaW.PrintMore
set_option linter.unusedVariables false
set_option linter.unusedSimpArgs false

theorem info9 : (Try.prog.info? 9).map (fun i => (i.zero, i.size, i.bytes)) = some (some (.string ByteArray.empty), 1, 16) := by kernel_rfl
section
variable {ops : Array Oper} {rest : List Oper} {o : Oper} {a : Act} {Q : Exit → Act → World → Prop}
/-- append(out, s), s a string. -/
theorem app_str {W : World} (base : Nat) (hgd : o.guard = none) (s x : Tmp) (ho : o.op = .call { callee := .builtin .append, args := #[.tmp s, .tmp x], argTypes := #[102, 102] })
    (v : Value) (xs : List ByteArray) (p : ByteArray) (hs : a.eval (.tmp s) = v) (hx : a.eval (.tmp x) = .slice (some ⟨W.heap.size, 0, none⟩) 1 1)
    (HO : Kd.R Kd.string 9 W base (fun _ => True) v xs) (hbase : base ≤ W.heap.size) (hl : (xs.length + 1) * 16 ≤ 140737488355328)
    (h : ∀ v1 w1, Kd.R Kd.string 9 w1 base (fun _ => True) v1 (xs ++ [p]) → W.grownBy w1 v.ownBlock → wpList Try.prog ops Q rest (a.put o.dst v1) w1) : wpList Try.prog ops Q (o :: rest) a (W.alloc (.cells #[.string p] 9)) :=
  Kd.R_append Kd.string (w0 := W) base hgd (.tmp s) (.tmp x) 102 9 (.string ByteArray.empty) 16 ho Try.underlying102 info9 rfl Nat.one_pos (by omega) v xs p [.string p] (fun _ => True) (fun _ => False) hs hx (show [Value.string p] = [Value.string p] from rfl) (fun _ hk => hk.elim) (fun _ _ => trivial) HO (Below.refl _ _) hbase hl (fun v1 w1 h1 _ h2 _ => h v1 w1 h1 h2)
end
theorem str_cut (l : List Int) (a e : Nat) (h : a ≤ e) : (strOfNums l).extract a e = strOfNums (cutL l a e) := by
  apply ByteArray.ext
  apply Array.ext'
  unfold cutL
  simp [strOfNums, List.map_take, List.map_drop, List.take_drop]
  rw [show a + (e - a) = e by omega]

set_option maxHeartbeats 8000000 in
set_option maxRecDepth 100000 in
theorem rrecords_calls (w : World) (l : List Int) (hl : isBytes l) (hn : l.length ≤ 1048576) :
    Calls Try.prog 69 #[.string (strOfNums l)] w fun e w' => ∃ v, e = .returned (.tuple #[v, .int .i64 (RS l 0).2]) ∧ Kd.R Kd.string 9 w' w.heap.size (fun _ => True) v ((RS l 0).1.map strOfNums) ∧ Fr No w w' := by
  have HL := Aside0.mk hl
  have hu65 := Try.underlying65
  have kc := fun (w : World) => conv_sb w (strOfNums l)
  have hz := strOfNums_size l
  rw [hz] at kc
  clear hl
  go_enter Try.func69, Try.ntmps69
  go_wp2_with (fail)
  go_loopg [4, 5] l.length (fun kq v4 v5 w' => ∃ (a : Nat) (o : List (List Int)), a + kq = l.length ∧ v5 = .int .i64 a ∧ Aside0 (RS l 0 = (o ++ (RS l a).1, (RS l a).2)) ∧ Aside0 (Kd.R Kd.string 9 w' w.heap.size (fun _ => True) v4 (o.map strOfNums) ∧ o.length ≤ a) ∧ Aside0 (Fr No w w'))
  case atStart => exact ⟨0, [], by omega, rfl, ⟨rfl⟩, ⟨Kd.R_nil _ _ _ _ _, by simp⟩, ⟨Fr.refl _ _⟩⟩
  case round =>
    obtain ⟨a, o, ha, rfl, RSE, OO, FF⟩ := hrel
    go_wp2_with (fail)
    have hC := sb_reads wr l HL.out (by omega)
    have hcap := grownCap_ge wr l.length 0 5
    have F1 := Aside0.mk ((Fr.refl No wr).bytes (strOfNums l))
    generalize grownCap wr l.length 0 5 = cc at hcap ⊢
    generalize hw1 : Lib.bytesWorld wr 5 (strOfNums l) = w1 at hC F1 ⊢
    generalize (⟨wr.heap.size, 0, none⟩ : Addr) = A1 at hC ⊢
    have HC1 := Aside0.mk hC
    have HCAP := Aside0.mk hcap
    have hm2 : Mb (w1.alloc (.cells #[.slice (some A1) l.length cc, .int .i64 a, .int .i64 (-1)] 65)) w1.heap.size (some A1) l.length cc a (-1) := blk_new w1 _
    have hb2 : Below w1.heap.size w1 (w1.alloc (.cells #[.slice (some A1) l.length cc, .int .i64 a, .int .i64 (-1)] 65)) := below_alloc (Below.refl _ _) _
    have F2 := Aside0.mk (F1.out.alloc (.cells #[.slice (some A1) l.length cc, .int .i64 a, .int .i64 (-1)] 65))
    clear hC hcap hw1
    have hg := F1.out.size
    generalize w1.alloc (.cells #[.slice (some A1) l.length cc, .int .i64 a, .int .i64 (-1)] 65) = w2 at hm2 hb2 F2 ⊢
    refine (mtext_any w1 w2 w1.heap.size (some A1) cc l a (-1) 16384 hb2 (Nat.le_refl _) HC1.out HCAP.out HL.out (by omega) hm2 ⟨by omega, .inl rfl⟩).mono ?_
    generalize w1.heap.size = g at hg ⊢
    rintro e w3 ⟨v3, rfl, hr3, hb3, hf3⟩
    have F3 := Aside0.mk (F2.out.trans hf3 (fun k (hk : k = g) => .inr (by rw [hk]; exact hg)))
    have M3 := Aside0.mk hb3
    obtain ⟨A3, c3, e3, hc3, hrd3⟩ := R_out hr3
    subst e3
    clear hb2 hm2 hr3 hb3 hf3 hg
    have hgo := fun h => @txt_yes l HL.out a h
    have hgg := fun h h2 => @good_crc l HL.out a h h2
    have hng : txt l a = [] → ¬ good l a := fun e g => g.1 e
    have hng2 : ¬ (a + 6 + (txt l a).length ≤ l.length) → ¬ good l a := fun e g => e g.2.1
    have hnx : nxt l a = a + 6 + (txt l a).length := rfl
    have HYES := Aside0.mk (@RS_yes l a)
    have HNO := Aside0.mk (@RS_no l a)
    have hgd : good l a ↔ txt l a ≠ [] ∧ a + 6 + (txt l a).length ≤ l.length ∧ cutL l a (a + 6 + (txt l a).length) = recL (txt l a) := Iff.rfl
    have hsb := txt_isBytes HL.out a
    unfold txt at hgo hgg hng hng2 hnx HYES hgd hsb
    generalize textS l a (-1) 16384 = tt at M3 hgo hgg hng hng2 hnx HYES hgd hsb hc3 hrd3 ⊢
    obtain ⟨s, e2, bd⟩ := tt
    dsimp only at M3 hgo hgg hng hng2 hnx HYES hgd hsb hc3 hrd3 ⊢
    have HSB := Aside0.mk hsb
    have HRD := Aside0.mk hrd3
    clear hsb hrd3 hc3 kc
    by_cases hs0 : s = []
    · have hg := hng hs0
      have hrs := HNO.out hg
      subst hs0
      clear hgo hgg hng hng2 hgd
      have hret : RS l 0 = (o, a) := by rw [RSE.out, hrs, List.append_nil]
      have HRET := Aside0.mk hret
      obtain ⟨q0, q1, q2, f1, f2⟩ := M3.out.cells
      clear hret hrs
      by_cases hbd : 0 ≤ bd
      · have hb1 : decide (0 ≤ bd) = true := decide_eq_true hbd
        go_wp2_with (fail)
        go_ret2
        exact ⟨u4, by rw [HRET.out]; rfl, by rw [HRET.out]; exact F3.out.Rlow OO.out.1 (fun _ h => h.elim), FF.out.on F3.out⟩
      · have hb1 : decide (0 ≤ bd) = false := decide_eq_false hbd
        go_wp2_with (fail)
        go_ret2
        exact ⟨u4, by rw [HRET.out]; rfl, by rw [HRET.out]; exact F3.out.Rlow OO.out.1 (fun _ h => h.elim), FF.out.on F3.out⟩
    · obtain ⟨ho1, ho2, ho3, ho4⟩ := hgo hs0
      simp only [Prod.mk.injEq] at ho4
      obtain ⟨rfl, rfl⟩ := ho4
      have hz1 : ((s.length : Int) == 0) = false := beq_eq_false_iff_ne.mpr (by have := List.length_pos_iff.mpr hs0; omega)
      have hz2 : (s.length == 0) = false := beq_eq_false_iff_ne.mpr (by have := List.length_pos_iff.mpr hs0; omega)
      obtain ⟨q0, q1, q2, f1, f2⟩ := M3.out.cells
      by_cases hend : a + 6 + s.length ≤ l.length
      · have he1 : decide ((l.length : Int) < ((a + 2 + s.length : Nat) : Int) + 4) = false := decide_eq_false (by omega)
        have hcb := cut_isBytes HL.out a (a + 6 + s.length)
        have hsc := str_cut l a (a + 6 + s.length) (by omega)
        have hgd2 : good l a ↔ cutL l a (a + 6 + s.length) = recL s := ⟨fun h => (hgd.mp h).2.2, fun h => hgd.mpr ⟨hs0, hend, h⟩⟩
        have hinj := str_inj hcb (recL_isBytes HSB.out)
        have HS0 := Aside0.mk hs0
        have hw6 : wrap64 ((a : Int) + 2 + s.length + 4) = (a : Int) + 6 + s.length := by rw [IntWalk.wrap64_in _ (by omega)]; omega
        have hsl : ∀ W : World, (Instr.slice 9 (.string (strOfNums l)) (some (.int .i64 (a : Int))) (some (.int .i64 ((a : Int) + 6 + s.length))) none).run Try.prog W = .ok (.string ((strOfNums l).extract a (a + 6 + s.length))) W := fun W => by
          rw [Go.run_slice_string W 9 (strOfNums l) .i64 .i64 (a : Int) ((a : Int) + 6 + s.length) Try.underlying9 (by omega) (by omega) (by rw [hz]; omega)]
          congr 3
        rw [← hsc] at hinj
        clear hgo hgg hng hng2 hgd hcb hsc hs0
        have HINJ := Aside0.mk hinj
        have HGD := Aside0.mk hgd2
        clear hinj hgd2
        go_wp2_with (fail)
        refine start_ (n := 12) (S := fun w' => w'.cell? ⟨g, 1, none⟩ = some (.int .i64 ((a + 2 + s.length : Nat) : Int)) ∧ (convert 47 9 (.slice A3 s.length c3)).run Try.prog w' = .ok (.string (strOfNums s)) w') (ds := []) #[false, false, false, false, false, false, false, false, false, false, false, false] (by kernel_rfl) rfl rfl ⟨q1, cv (Kd.C_drew HRD.out)⟩ (fun hHeld => ?_)
        refine pure_ (i := 0) (N := some 37) (v := ?_) (a' := ?_) #[true, false, false, false, false, false, false, false, false, false, false, false] rfl rfl (by kernel_rfl) (fun _ _ _ h => h) (Or.inl ⟨by rfl, ?_⟩) ?_ ?_
        rotate_left
        · intro w'
          go_simp
          with_reducible rfl
        rotate_left
        · simp only [Act.put, List.setIfInBounds_toArray, List.set_cons_zero, List.set_cons_succ, i64_w, i32_w]
          rfl
        refine pure_ (i := 1) (N := some 38) (v := ?_) (a' := ?_) #[true, true, false, false, false, false, false, false, false, false, false, false] rfl rfl (by kernel_rfl) (fun _ _ _ h => h) (Or.inl ⟨by rfl, ?_⟩) ?_ ?_
        rotate_left
        · intro w'
          go_simp
          with_reducible rfl
        rotate_left
        · simp only [Act.put, List.setIfInBounds_toArray, List.set_cons_zero, List.set_cons_succ, i64_w, i32_w]
          rfl
        refine pure_ (i := 2) (N := some 39) (v := ?_) (a' := ?_) #[true, true, true, false, false, false, false, false, false, false, false, false] rfl rfl (by kernel_rfl) (fun _ _ _ h => h) (Or.inl ⟨by rfl, ?_⟩) ?_ ?_
        rotate_left
        · intro w'
          go_simp
          with_reducible rfl
        rotate_left
        · simp only [Act.put, List.setIfInBounds_toArray, List.set_cons_zero, List.set_cons_succ, i64_w, i32_w]
          rfl
        refine pure_ (i := 3) (N := some 40) (v := ?_) (a' := ?_) #[true, true, true, true, false, false, false, false, false, false, false, false] rfl rfl (by kernel_rfl) (fun _ _ _ h => h) (Or.inl ⟨by rfl, ?_⟩) ?_ ?_
        rotate_left
        · intro w'
          go_simp
          with_reducible rfl
        rotate_left
        · simp only [Act.put, List.setIfInBounds_toArray, List.set_cons_zero, List.set_cons_succ, i64_w, i32_w]
          rfl
        refine pure_ (i := 4) (N := some 41) (v := ?_) (a' := ?_) #[true, true, true, true, true, false, false, false, false, false, false, false] rfl rfl (by kernel_rfl) (fun _ _ _ h => h) (Or.inl ⟨by rfl, ?_⟩) ?_ ?_
        rotate_left
        · intro w'
          go_simp
          with_reducible rfl
        rotate_left
        · simp only [Act.put, List.setIfInBounds_toArray, List.set_cons_zero, List.set_cons_succ, i64_w, i32_w]
          rfl
        refine pure_ (i := 8) (N := some 45) (v := ?_) (a' := ?_) #[true, true, true, true, true, false, false, false, true, false, false, false] rfl rfl (by kernel_rfl) (fun _ _ _ h => h) (Or.inl ⟨by rfl, ?_⟩) ?_ ?_
        rotate_left
        · intro w'
          go_simp
          with_reducible rfl
        rotate_left
        · simp only [Act.put, List.setIfInBounds_toArray, List.set_cons_zero, List.set_cons_succ, i64_w, i32_w]
          rfl
        refine take_ (i := 5) (N := some 42) (v := ?_) (a' := ?_) #[true, true, true, true, true, true, false, false, true, false, false, false] rfl rfl (by kernel_rfl) (fun _ _ _ h => h) (Or.inl ⟨by rfl, ?_⟩) hHeld ?_ ?_
        rotate_left
        · rintro w' ⟨s0, s1⟩
          go_simp
          with_reducible rfl
        rotate_left
        · simp only [Act.put, List.setIfInBounds_toArray, List.set_cons_zero, List.set_cons_succ, i64_w, i32_w]
          rfl
        refine pure_ (i := 6) (N := some 43) (v := ?_) (a' := ?_) #[true, true, true, true, true, true, true, false, true, false, false, false] rfl rfl (by kernel_rfl) (fun _ _ _ h => h) (Or.inl ⟨by rfl, ?_⟩) ?_ ?_
        rotate_left
        · intro w'
          go_simp
          with_reducible rfl
        rotate_left
        · simp only [Act.put, List.setIfInBounds_toArray, List.set_cons_zero, List.set_cons_succ, i64_w, i32_w]
          rfl
        refine pure_ (i := 7) (N := some 44) (v := ?_) (a' := ?_) #[true, true, true, true, true, true, true, true, true, false, false, false] rfl rfl (by kernel_rfl) (fun _ _ _ h => h) (Or.inl ⟨by rfl, ?_⟩) ?_ ?_
        rotate_left
        · intro w'
          go_simp
          with_reducible rfl
        rotate_left
        · simp only [Act.put, List.setIfInBounds_toArray, List.set_cons_zero, List.set_cons_succ, i64_w, i32_w]
          rfl
        refine take_ (i := 9) (N := some 46) (v := ?_) (a' := ?_) #[true, true, true, true, true, true, true, true, true, true, false, false] rfl rfl (by kernel_rfl) (fun _ _ _ h => h) (Or.inl ⟨by rfl, ?_⟩) hHeld ?_ ?_
        rotate_left
        · rintro w' ⟨s0, s1⟩
          go_simp
          with_reducible rfl
        rotate_left
        · simp only [Act.put, List.setIfInBounds_toArray, List.set_cons_zero, List.set_cons_succ, i64_w, i32_w]
          rfl
        refine one_ (i := 10) (N := some 47) #[true, true, true, true, true, true, true, true, true, true, true, false] rfl rfl (by kernel_rfl) (by decide) (fun K hK => ?_)
        refine goes_ Try.func94 (by kernel_rfl) rfl #[.string (strOfNums s)] (by rfl) rfl rfl (by simp only [List.map_toArray, List.map_cons, List.map_nil]; rfl) ?_
        with_reducible refine (record_calls _ s HSB.out (by omega)).mono ?_
        rintro e w4 ⟨rfl, hf4⟩
        refine ⟨_, rfl, ?_⟩
        have F4 := Aside0.mk (F3.out.drew.on hf4)
        have F34 := Aside0.mk ((Fr.refl No w3).drew.on hf4)
        have M4 := Aside0.mk (show Mb w4 g (some A1) l.length cc (a + 2 + s.length : Nat) (-1) from hf4.blk (w := w3.drew) M3.out (fun h => h.elim))
        clear hf4
        refine hK.out _ _ ⟨M4.out.cells.2.1, cv (C_on HRD.out F34.out)⟩ (fun hHeld => ?_)
        clear hK K
        refine norm_ (a' := ?_) ?_ ?_
        rotate_left
        · show Act.put _ (some 47) _ = _
          simp only [Act.put, List.setIfInBounds_toArray, List.set_cons_zero, List.set_cons_succ, i64_w, i32_w]
          rfl
        refine pure_ (i := 11) (N := some 48) (v := ?_) (a' := ?_) #[true, true, true, true, true, true, true, true, true, true, true, true] rfl rfl (by kernel_rfl) (fun _ _ _ h => h) (Or.inl ⟨by rfl, ?_⟩) ?_ ?_
        rotate_left
        · intro w'
          go_simp
          with_reducible rfl
        rotate_left
        · simp only [Act.put, List.setIfInBounds_toArray, List.set_cons_zero, List.set_cons_succ, i64_w, i32_w]
          rfl
        refine done_ (by kernel_rfl) ?_
        obtain ⟨m0, m1, m2, g1, g2⟩ := M4.out.cells
        have cv4 := cv (c := c3) (C_on HRD.out F34.out)
        have hnx2 : nxt l a = a + 6 + s.length := hnx
        clear q0 q1 q2 f1 f2 hsl hw6 hHeld
        by_cases hg : good l a
        · have hst := HINJ.out
          rw [decide_eq_true (HGD.out.mp hg)] at hst
          have hrs := HYES.out hg
          generalize hy : strOfNums (recL s) = y at hst ⊢
          generalize hx : (strOfNums l).extract a (a + 6 + s.length) = x at hst ⊢
          have hst2 : (!(x.toList == y.toList)) = false := by rw [hst]; rfl
          clear hy hx hst
          rw [hst2]
          go_wp2_with (first | ((with_reducible refine gate_builtin (b := .append) (xs := #[.tmp 51, .tmp 54]) rfl ?_); at_builtin; refine app_str w.heap.size rfl 51 54 rfl u4 (o.map strOfNums) (strOfNums s) rfl rfl (F4.out.Rlow OO.out.1 (fun _ h => h.elim)) (FF.out.on F4.out).size ?aL ?_; (case aL => rw [List.length_map]; have := OO.out.2; omega); intro v6 w6 hr6 hg6; have R6 := Aside0.mk hr6; have F6 := Aside0.mk ((FF.out.on F4.out).own (F4.out.Rlow OO.out.1 (fun _ h => h.elim)) (Nat.le_refl _) hg6); have M6 := Aside0.mk (show Mb w6 g (some A1) l.length cc (a + 2 + s.length : Nat) (-1) from blk_grown M4.out hg6 (Kd.R_ne (F4.out.Rlow OO.out.1 (fun _ h => h.elim)) M4.out (by decide))); clear m0 m1 m2 g1 g2 hr6 hg6; obtain ⟨m0, m1, m2, g1, g2⟩ := M6.out.cells))
          have hnxi : ((a + 6 + s.length : Nat) : Int) = (a : Int) + 2 + s.length + 4 := by omega
          go_roundg (l.length - (a + 6 + s.length))
          case measure => omega
          case rel => exact ⟨a + 6 + s.length, o ++ [s], by omega, by go_num, ⟨by rw [RSE.out, hrs, hnx2]; simp⟩, ⟨by rw [List.map_append]; exact R6.out, by rw [List.length_append, List.length_singleton]; have := OO.out.2; omega⟩, F6⟩
        · have hst := HINJ.out
          rw [decide_eq_false (fun e => hg (HGD.out.mpr e))] at hst
          have hrs := HNO.out hg
          have hret : RS l 0 = (o, a) := by rw [RSE.out, hrs, List.append_nil]
          have HRET := Aside0.mk hret
          clear hret hrs
          generalize hy : strOfNums (recL s) = y at hst ⊢
          generalize hx : (strOfNums l).extract a (a + 6 + s.length) = x at hst ⊢
          have hst2 : (!(x.toList == y.toList)) = true := by rw [hst]; rfl
          clear hy hx hst
          rw [hst2]
          go_wp2_with (fail)
          go_ret2
          exact ⟨u4, by rw [HRET.out]; rfl, by rw [HRET.out]; exact F4.out.Rlow OO.out.1 (fun _ h => h.elim), FF.out.on F4.out⟩
      · have he1 : decide ((l.length : Int) < ((a + 2 + s.length : Nat) : Int) + 4) = true := decide_eq_true (by omega)
        have hrs := HNO.out (hng2 hend)
        have hret : RS l 0 = (o, a) := by rw [RSE.out, hrs, List.append_nil]
        have HRET := Aside0.mk hret
        clear hret hrs hgo hgg hng hng2
        go_wp2_with (fail)
        go_ret2
        exact ⟨u4, by rw [HRET.out]; rfl, by rw [HRET.out]; exact F3.out.Rlow OO.out.1 (fun _ h => h.elim), FF.out.on F3.out⟩

end Go.Proofs.Ythlcognpfangkaa

namespace Go.Proofs.Ythlcognpfangkaa
open Go.RowKit Go.Proofs.YthlcognpfangkaaW.PrintWords Go.Proofs.YthlcognpfangkaaW.PrintLast Go.Proofs.YthlcognpfangkaaW.PrintMore
set_option linter.unusedVariables false
set_option linter.unusedSimpArgs false

theorem KB_get {w : World} {A : Option Addr} {xs : List (List Int)} (h : KB.C w A xs.length xs) (i : Nat) (hi : i < xs.length) :
    ∃ ad A' c', A = some ad ∧ w.cell? (ad.add i) = some (.slice A' (xs[i]).length c') ∧ (xs[i]).length ≤ c' ∧ Kd.C (Kd.int .u8) w A' (xs[i]).length (xs[i]) := by
  obtain ⟨ad, c, e, hl, hK, hc⟩ := Kd.C_get h [] (i : Int) (by omega) (by omega)
  rw [Int.toNat_natCast, List.getD_eq_getElem?_getD, List.getElem?_eq_getElem hi, Option.getD_some] at hK
  obtain ⟨A', c', rfl, hle, hr⟩ := (show ∃ A' c', c = [Value.slice A' (xs[i]).length c'] ∧ (xs[i]).length ≤ c' ∧ Kd.C (Kd.int .u8) w A' (xs[i]).length (xs[i]) from hK)
  have := hc 0 _ rfl
  rw [Int.toNat_natCast] at this
  exact ⟨ad, A', c', e, by rw [show i * KB.sz + 0 = i from by show i * 1 + 0 = i; omega] at this; exact this, hle, hr⟩
theorem KS_get {w : World} {A : Option Addr} {xs : List ByteArray} (h : Kd.string.C w A xs.length xs) (i : Nat) (hi : i < xs.length) :
    ∃ ad, A = some ad ∧ w.cell? (ad.add i) = some (.string (xs[i])) := by
  obtain ⟨ad, c, e, hl, hK, hc⟩ := Kd.C_get h ByteArray.empty (i : Int) (by omega) (by omega)
  rw [Int.toNat_natCast, List.getD_eq_getElem?_getD, List.getElem?_eq_getElem hi, Option.getD_some] at hK
  obtain rfl := (show c = [Value.string (xs[i])] from hK)
  have := hc 0 _ rfl
  rw [Int.toNat_natCast] at this
  exact ⟨ad, e, by rw [show i * Kd.string.sz + 0 = i from by show i * 1 + 0 = i; omega] at this; exact this⟩

set_option maxRecDepth 100000 in
theorem alike_calls (w : World) (A : Option Addr) (c : Nat) (B : Option Addr) (d : Nat) (l : List (List Int)) (hr : KB.C w A l.length l) (hs : Kd.string.C w B l.length (l.map strOfNums)) (hn : l.length ≤ 9223372036854775000) :
    Calls Try.prog 70 #[.slice A l.length c, .slice B l.length d] w fun e w' => e = .returned (.bool true) ∧ Drawn0 w w' := by
  have HR := Aside0.mk hr
  have HS := Aside0.mk hs
  have hne : ((l.length : Int) != l.length) = false := by simp
  clear hr hs
  go_enter Try.func70, Try.ntmps70
  go_wp2_with (fail)
  go_loopg [5] l.length (fun kq v5 w' => ∃ k : Nat, k + kq = l.length ∧ v5 = .int .i64 k ∧ Aside0 (Drawn0 w w'))
  case atStart => exact ⟨0, by omega, rfl, ⟨Drawn0.refl _⟩⟩
  case round =>
    obtain ⟨k, hk, rfl, DD⟩ := hrel
    by_cases hlt : k < l.length
    · obtain ⟨ad, A', c', rfl, q0, hle, hrd⟩ := KB_get (Kd.C_below HR.out DD.out.below) k hlt
      have hs2 := Kd.C_below HS.out DD.out.below
      rw [← List.length_map (f := strOfNums)] at hs2
      obtain ⟨bd, rfl, p0⟩ := KS_get hs2 k (by rw [List.length_map]; exact hlt)
      rw [List.getElem_map] at p0
      have cvx := fun n : Nat => cv (W := wr.drewN n) (c := c') (show Kd.C (Kd.int .u8) (wr.drewN n) A' _ _ from hrd)
      generalize l[k] = x at q0 p0 cvx
      generalize strOfNums x = sx at p0 cvx
      have hix : (0 : Int) ≤ k := by omega
      have hix2 : (k : Int) < l.length := by omega
      have hb : decide ((k : Int) < l.length) = true := decide_eq_true hix2
      clear hrd hs2
      go_wp2_with (fail)
      go_quiet (fail)
      go_wp2_with (fail)
      go_roundg (l.length - (k + 1))
      case measure => omega
      case rel => exact ⟨k + 1, by omega, by go_num, ⟨DD.out.step _⟩⟩
    · have hb : decide ((k : Int) < l.length) = false := decide_eq_false (by omega)
      have hb2 : decide (k < l.length) = false := decide_eq_false hlt
      go_wp2_with (fail)
      go_ret
      exact ⟨rfl, DD.out⟩

end Go.Proofs.Ythlcognpfangkaa
