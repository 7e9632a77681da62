/- DotsBack: what ref.Lines gives on stuffed lines; the law, walked, for every input. -/
import Derived.Test.YtpplahmnlgokbaaHandLines
import Derived.Test.YtpplahmnlgokbaaDotsLaws
import Derived.Test.YtpplahmnlgokbaaHandStuff
import Derived.Laws.IdiomStrings
import Derived.WalkKit
import Derived.ProofKit
namespace Go.Proofs.Ytpplahmnlgokbaa.Dots
open Go.RowKit Go.Proofs.YtpplahmnlgokbaaW.PrintWords Go.Proofs.YtpplahmnlgokbaaW.PrintLast Go.Proofs.YtpplahmnlgokbaaW.PrintMore Go.Proofs.Ytpplahmnlgokbaa.PY Go.Proofs.Ytpplahmnlgokbaa.Hand
set_option linter.unusedVariables false
set_option linter.unusedSimpArgs false
abbrev SLine := Go.Proofs.Ytpplahmnlgokbaa.PY.S37
def mkS (l : List UInt8) : ByteArray := ⟨l.toArray⟩
def numsL (l : List UInt8) : List Int := l.map fun b => (b.toNat : Int)
theorem nums_len (l : List UInt8) : (numsL l).length = l.length := by unfold numsL; rw [List.length_map]
theorem rd_nums (l : List UInt8) (i : Nat) (h : i < l.length) : rd (numsL l) (i : Int) = ((l[i]).toNat : Int) := by
  unfold rd numsL
  rw [Int.toNat_natCast, List.getD_eq_getElem?_getD, List.getElem?_map, List.getElem?_eq_getElem h]
  rfl
theorem nat_is (a b : UInt8) : ((a.toNat : Int) = (b.toNat : Int)) ↔ a = b := by
  rw [Int.natCast_inj]
  exact UInt8.toNat_inj
theorem str_nums (l : List UInt8) : strOfNums (numsL l) = mkS l := by
  unfold strOfNums numsL mkS
  congr 2
  rw [List.map_map]
  conv => rhs; rw [← List.map_id l]
  refine List.map_congr_left fun b _ => ?_
  simp
theorem Ev_succ {α : Type} {g : Nat → Option α} {r : α} (h : Ev (fun k => g (k + 1)) r) : Ev g r := Ev.step (f := fun k => g (k + 1)) (fun _ => rfl) h
theorem w_suc (i : Nat) (h : i < 4611686018427387904) : Aside0 (wrap64 ((i : Int) + 1) = ((i + 1 : Nat) : Int)) := ⟨by unfold wrap64; omega⟩
theorem w_suc2 (i : Nat) (h : i < 4611686018427387904) : Aside0 (wrap64 ((i : Int) + 2) = ((i + 2 : Nat) : Int)) := ⟨by unfold wrap64; omega⟩
/-- A line without the three bytes, and not too long. -/
theorem line_loop (l : List UInt8) (hl : l.length < 1000000) (hb : ∀ c ∈ l, c ≠ 0 ∧ c ≠ 10 ∧ c ≠ 13) : ∀ (d i : Nat), l.length - i = d → i ≤ l.length → Ev (fun k => PB.estafetteref01_Line.l0 k (numsL l) (i : Int)) (1, mkS l) := by
  intro d
  induction d with
  | zero =>
    intro i hd hi
    refine Ev_succ ?_
    simp only [PB.estafetteref01_Line.l0]
    exact ev_neg (by rw [nums_len]; omega) (ev_now (by rw [str_nums]))
  | succ d ih =>
    intro i hd hi
    have hlt : i < l.length := by omega
    have e2 := w_suc i (by omega)
    obtain ⟨h0, h1, h2⟩ := hb _ (List.getElem_mem hlt)
    refine Ev_succ ?_
    simp only [PB.estafetteref01_Line.l0, rd_nums l i hlt, e2.out]
    exact ev_pos (by rw [nums_len]; omega) (ev_pos (by omega) (ev_neg (fun h => h0 ((nat_is _ 0).1 h)) (ev_neg (fun h => h1 ((nat_is _ 10).1 h)) (ev_neg (fun h => h2 ((nat_is _ 13).1 h)) (ih (i + 1) (by omega) (by omega))))))
theorem line_ev (l : List UInt8) (hl : l.length ≤ 998) (hb : ∀ c ∈ l, c ≠ 0 ∧ c ≠ 10 ∧ c ≠ 13) : Ev (fun k => PB.estafetteref01_Line.f k (numsL l) 1000) (1, mkS l) := by
  unfold PB.estafetteref01_Line.f
  have w : wrap64 (((numsL l).length : Int) + 2) = ((l.length + 2 : Nat) : Int) := by rw [nums_len]; unfold wrap64; omega
  rw [w]
  exact ev_neg (by omega) (line_loop l (by omega) hb _ 0 rfl (Nat.zero_le _))
theorem cut_nums (a b c : List UInt8) : ((numsL (a ++ b ++ c)).take (a.length + b.length)).drop a.length = numsL b := by
  unfold numsL
  rw [List.map_append, List.map_append, show a.length + b.length = (List.map (fun x : UInt8 => (x.toNat : Int)) a ++ List.map (fun x : UInt8 => (x.toNat : Int)) b).length from by simp, List.take_left]
  rw [show a.length = (List.map (fun x : UInt8 => (x.toNat : Int)) a).length from by simp, List.drop_left]
/-- One line more: from its begin to its end. -/
theorem lines_one (a b c : List UInt8) (out : List SLine) (r : List SLine × List Int) (ho : out.length < 1000000) (ht : (a ++ b ++ 13 :: 10 :: c).length < 1000000000) (hl : b.length ≤ 998) (hb : ∀ x ∈ b, x ≠ 0 ∧ x ≠ 10 ∧ x ≠ 13)
    (hk : Ev (fun k => estafetteref01_Lines.l0 k (numsL (a ++ b ++ 13 :: 10 :: c)) 1000 (out ++ [⟨1, mkS b⟩]) ((a.length + b.length + 2 : Nat) : Int) ((a.length + b.length + 2 : Nat) : Int)) r) : ∀ (d j : Nat), b.length - j = d → j ≤ b.length →
    Ev (fun k => estafetteref01_Lines.l0 k (numsL (a ++ b ++ 13 :: 10 :: c)) 1000 out (a.length : Int) ((a.length + j : Nat) : Int)) r := by
  have hlen : (numsL (a ++ b ++ 13 :: 10 :: c)).length = a.length + b.length + 2 + c.length := by rw [nums_len]; simp; omega
  simp only [List.length_append, List.length_cons] at ht
  intro d
  induction d with
  | zero =>
    intro j hd hj
    obtain rfl : j = b.length := by omega
    have e2 := w_suc (a.length + b.length) (by omega)
    have e3 := w_suc (a.length + b.length + 1) (by omega)
    have e4 := w_suc2 (a.length + b.length) (by omega)
    have g1 : rd (numsL (a ++ b ++ 13 :: 10 :: c)) ((a.length + b.length : Nat) : Int) = 13 := by
      rw [rd_nums _ _ (by simp), List.getElem_append_right (by simp)]
      simp
    have g2 : rd (numsL (a ++ b ++ 13 :: 10 :: c)) ((a.length + b.length + 1 : Nat) : Int) = 10 := by
      rw [rd_nums _ _ (by simp; omega), List.getElem_append_right (by simp)]
      simp
    refine Ev_succ ?_
    simp only [estafetteref01_Lines.l0, e2.out, e3.out, e4.out]
    refine ev_pos (by rw [hlen]; omega) (ev_pos (by omega) (ev_pos (by rw [hlen]; omega) (ev_pos g1 (ev_pos (by omega) (ev_pos g2 (ev_pos (by omega) (ev_pos (by omega) (ev_pos (by rw [hlen]; omega) ?_))))))))
    rw [Int.toNat_natCast, Int.toNat_natCast, cut_nums]
    refine Ev.bind (line_ev b hl hb) (ev_pos (by omega) ?_)
    exact hk
  | succ d ih =>
    intro j hd hj
    have e2 := w_suc (a.length + j) (by omega)
    have hjb : j < b.length := by omega
    obtain ⟨_, _, h3⟩ := hb _ (List.getElem_mem hjb)
    have g1 : ¬ rd (numsL (a ++ b ++ 13 :: 10 :: c)) ((a.length + j : Nat) : Int) = 13 := by
      rw [rd_nums _ _ (by simp; omega), List.getElem_append_left (by simp; omega), List.getElem_append_right (by omega)]
      intro h
      have h5 := (nat_is _ 13).1 h
      simp only [Nat.add_sub_cancel_left] at h5
      exact h3 h5
    refine Ev_succ ?_
    simp only [estafetteref01_Lines.l0, e2.out]
    exact ev_pos (by rw [hlen]; omega) (ev_pos (by omega) (ev_pos (by rw [hlen]; omega) (ev_neg g1 (ih (j + 1) (by omega) (by omega)))))
def dotted (s : ByteArray) : List UInt8 := (if s.data.toList.head? = some 46 then [46] else []) ++ s.data.toList
theorem stuff1_dotted (s : ByteArray) : stuff1 s = dotted s ++ [13, 10] := rfl
def backs (l : List ByteArray) : List SLine := l.map fun s => ⟨1, mkS (dotted s)⟩
theorem dotted_ok (s : ByteArray) (h : lineOk s = true) : (dotted s).length ≤ 998 ∧ ∀ x ∈ dotted s, x ≠ 0 ∧ x ≠ 10 ∧ x ≠ 13 := by
  obtain ⟨h1, h2, h3, h4⟩ := (lineOk_iff s).1 h
  have hs : s.data.toList.length = s.size := size_list s
  unfold dotted
  constructor
  · rw [List.length_append]
    split <;> simp <;> omega
  · intro x hx
    rcases List.mem_append.1 hx with hx | hx
    · split at hx
      · rw [List.mem_singleton] at hx
        subst hx
        decide
      · cases hx
    · exact ⟨fun e => h2 (e ▸ hx), fun e => h3 (e ▸ hx), fun e => h4 (e ▸ hx)⟩
theorem lines_all (l : List ByteArray) (hl : l.length < 1000) (hz : (stuffed l).length < 1000000000) (hg : ∀ s ∈ l, lineOk s = true) : ∀ (rest done : List ByteArray), l = done ++ rest →
    Ev (fun k => estafetteref01_Lines.l0 k (numsL (stuffed l)) 1000 (backs done) ((stuffL done).length : Int) ((stuffL done).length : Int)) (backs l ++ [⟨1, mkS [46]⟩], []) := by
  intro rest
  induction rest with
  | nil =>
    intro done hd
    rw [List.append_nil] at hd
    subst hd
    have he : stuffed l = stuffL l ++ [46] ++ 13 :: 10 :: [] := by unfold stuffed; simp
    rw [he] at hz ⊢
    have := lines_one (stuffL l) [46] [] (backs l) (backs l ++ [⟨1, mkS [46]⟩], []) (by unfold backs; rw [List.length_map]; omega) hz (by decide) (by decide) ?_ _ 0 rfl (Nat.zero_le _)
    · exact this
    · refine Ev_succ ?_
      have hw := w_suc ((stuffL l).length + [(46 : UInt8)].length + 2) (by simp at hz ⊢; omega)
      simp only [estafetteref01_Lines.l0, hw.out]
      refine ev_neg (by rw [nums_len]; simp; omega) (ev_pos (by omega) (ev_pos (by rw [nums_len]; simp; omega) (ev_now ?_)))
      rw [Int.toNat_natCast, List.drop_eq_nil_of_le (by rw [nums_len]; simp)]
  | cons s rest ih =>
    intro done hd
    have hs := hg s (by rw [hd]; simp)
    obtain ⟨h1, h2⟩ := dotted_ok s hs
    have he : stuffed l = stuffL done ++ dotted s ++ 13 :: 10 :: (stuffL rest ++ [46, 13, 10]) := by
      unfold stuffed stuffL
      rw [hd, List.flatMap_append, List.flatMap_cons, stuff1_dotted]
      simp
    have hn := ih (done ++ [s]) (by rw [hd]; simp)
    have hlen : (stuffL (done ++ [s])).length = (stuffL done).length + (dotted s).length + 2 := by
      unfold stuffL
      rw [List.flatMap_append, List.flatMap_cons, stuff1_dotted]
      simp
      omega
    have hbk : backs (done ++ [s]) = backs done ++ [⟨1, mkS (dotted s)⟩] := by unfold backs; simp
    rw [hlen, hbk] at hn
    have hdl : done.length < 1000 := by rw [hd] at hl; simp at hl; omega
    rw [he] at hz hn ⊢
    have := lines_one (stuffL done) (dotted s) (stuffL rest ++ [46, 13, 10]) (backs done) _ (by unfold backs; rw [List.length_map]; omega) hz h1 h2 hn _ 0 rfl (Nat.zero_le _)
    exact this
theorem lines_ev (l : List ByteArray) (hl : l.length < 1000) (hz : (stuffed l).length < 1000000000) (hg : ∀ s ∈ l, lineOk s = true) : Ev (fun k => estafetteref01_Lines.f k (numsL (stuffed l)) 1000) (backs l ++ [⟨1, mkS [46]⟩], []) :=
  lines_all l hl hz hg l [] rfl
/-- A line that was stuffed, unstuffed. -/
theorem back_one (s : ByteArray) : PB.dots_Unstuff.f (mkS (dotted s)) = some (s, false) := by
  rw [unstuff_eq]
  have e1 : (mkS (dotted s)).data.toList = dotted s := by simp [mkS]
  rw [e1]
  by_cases h : s.data.toList.head? = some 46
  · have e2 : dotted s = 46 :: s.data.toList := by unfold dotted; rw [if_pos h]; rfl
    rw [e2, if_neg ?_, if_pos (show (46 :: s.data.toList).head? = some 46 from rfl)]
    · congr 2
      apply ByteArray.ext
      rw [ByteArray.data_extract]
      apply Array.toList_inj.1
      simp [mkS]
      have : (mkS (46 :: s.data.toList)).size = s.data.toList.length + 1 := by unfold mkS; exact (mk_size _).trans (by simp)
      unfold mkS at this
      rw [this]
      simp
      rw [List.take_of_length_le (by rw [size_list]; exact Nat.le_refl _)]
    · intro h2
      injection h2 with _ h2
      rw [h2] at h
      cases h
  · have e2 : dotted s = s.data.toList := by unfold dotted; rw [if_neg h]; rfl
    rw [e2, if_neg (fun h2 => h (by rw [h2]; rfl)), if_neg h]
    congr 2
theorem back_end : PB.dots_Unstuff.f (mkS [46]) = some (⟨#[]⟩, true) := by
  rw [unstuff_eq]
  rfl
theorem C_bytes (w : World) (ad : Addr) (l : List UInt8) (hl : l.length ≤ 9223372036854775807) (h : ∀ j (hj : j < l.length), w.cell? (ad.add j) = some (.int .u8 (l[j].toNat : Int))) : Kd.C (Kd.int .u8) w (some ad) (numsL l).length (numsL l) := by
  refine ⟨rfl, by rw [nums_len]; exact hl, fun _ => ⟨ad, rfl, fun j p hj => ?_⟩⟩
  have hjl : j < l.length := by
    have := (List.getElem?_eq_some_iff.1 hj).1
    rwa [nums_len] at this
  have hp : ((l[j]).toNat : Int) = p := by
    unfold numsL at hj
    rw [List.getElem?_map, List.getElem?_eq_getElem hjl] at hj
    exact Option.some.inj hj
  refine ⟨[.int .u8 p], rfl, rfl, fun i u hi => ?_⟩
  have hi0 : i = 0 := by
    have := (List.getElem?_eq_some_iff.1 hi).1
    simp at this
    exact this
  subst hi0
  have hu : Value.int .u8 p = u := by simpa using hi
  rw [← hu, ← hp, Nat.add_zero]
  show w.cell? (ad.add (j * 1)) = _
  rw [Nat.mul_one]
  exact h j hjl
def DotsBackOk (l : List ByteArray) : Prop := l.length * 16 ≤ 140737488351232 ∧ ∀ s ∈ l, s.size ≤ 140737488351232
set_option maxHeartbeats 4000000 in
theorem DotsBack_calls (A0 : Option Addr) (c0 : Nat) (l0 : List ByteArray) (w : World) (hr0 : Kd.C Kd.string w A0 l0.length l0) (hc0 : l0.length ≤ c0) (hl : l0.length * 16 ≤ 140737488351232) (hb : ∀ s ∈ l0, s.size ≤ 140737488351232) :
    Calls Try.prog 4 #[.slice A0 l0.length c0] w fun e w' => e = .returned (.bool true) ∧ Below w.heap.size w w' := by
  obtain ⟨b, hb1, hb2⟩ := small_loop l0 hb (by omega) l0.length 0 (l0.length : Int) (by omega) (by omega) (by omega) (by omega)
  obtain ⟨K, hK⟩ := hb1
  have HS := Aside0.mk (PB.estafettelaw05_small.calls K A0 c0 l0 b w hr0 hc0 (hK K (Nat.le_refl _)))
  have HB2 := Aside0.mk hb2
  have HR := Aside0.mk hr0
  have HBS := Aside0.mk hb
  clear hK hb2 hr0 hb
  cases b with
  | false =>
    go_enter Try.func4, Try.ntmps4
    go_wp2_with fail
    refine HS.out.mono ?_
    rintro e w1 ⟨rfl, nd, rfl⟩
    go_wp2_with fail
    refine (PB.estafettelaw05_answers.calls true _ answers_eq).mono ?_
    rintro e w2 ⟨rfl, hb2⟩
    have HB := Aside0.mk (show Below w.heap.size w w2 from (pw_below_drewN (Below.refl _ _) nd).trans (hb2.mono (Nat.le_refl _)))
    clear hb2
    go_wp2
    go_ret
    exact ⟨rfl, HB.out⟩
  | true =>
    have h1 := HB2.out rfl
    rw [List.drop_zero] at h1
    have hz := sumS_sizeL l0
    have hz2 : sizeL l0 < 4611686018427387904 := by omega
    obtain ⟨K2, hK2⟩ := refGood_ev l0 hz2
    have HG := Aside0.mk (fun w' h => PB.estafetteref01_Good.calls K2 A0 c0 l0 (goodB l0) w' h hc0 (hK2 K2 (Nat.le_refl _)))
    clear hK2
    cases hg : goodB l0 with
    | false =>
      rw [hg] at HG
      go_enter Try.func4, Try.ntmps4
      go_wp2_with fail
      refine HS.out.mono ?_
      rintro e w1 ⟨rfl, nd, rfl⟩
      go_wp2_with fail
      refine (HG.out _ (Kd.C_drewN HR.out _)).mono ?_
      rintro e w1 ⟨rfl, nd2, rfl⟩
      go_wp2_with fail
      refine (PB.estafettelaw05_answers.calls true _ answers_eq).mono ?_
      rintro e w2 ⟨rfl, hb2⟩
      have HB := Aside0.mk (show Below w.heap.size w w2 from (pw_below_drewN (Below.refl _ _) (nd + nd2)).trans (hb2.mono (Nat.le_refl _)))
      clear hb2
      go_wp2
      go_ret
      exact ⟨rfl, HB.out⟩
    | true =>
      rw [hg] at HG
      have hg2 := (Bool.and_eq_true _ _).mp hg
      have hgl : ∀ s ∈ l0, lineOk s = true := List.all_eq_true.1 hg2.1
      have hgz : sizeL l0 ≤ 65536 := of_decide_eq_true hg2.2
      have hsl : (stuffed l0).length < 1000000 := by
        have := stuffL_len l0
        have := len_le l0
        unfold stuffed
        rw [List.length_append]
        simp
        omega
      obtain ⟨K3, hK3⟩ := lines_ev l0 (by omega) (by omega) hgl
      have HL := Aside0.mk (hK3 K3 (Nat.le_refl _))
      have HGL := Aside0.mk hgl
      have hst : Hand.dots_Stuff.f l0 = some (mkS (stuffed l0), 0) := by
        unfold Hand.dots_Stuff.f
        rw [if_pos hz2, if_pos hg]
        rfl
      have HST := Aside0.mk hst
      have kc := fun w s => run_bytes_of_string (P := Try.prog) w 9 31 5 s Try.underlying9 Try.underlying31 Try.underlying5
      clear hK3 hst hgl hg hg2
      go_enter Try.func4, Try.ntmps4
      go_wp2_with fail
      refine HS.out.mono ?_
      rintro e w1 ⟨rfl, nd, rfl⟩
      go_wp2_with fail
      refine (HG.out _ (Kd.C_drewN HR.out _)).mono ?_
      rintro e w1 ⟨rfl, nd2, rfl⟩
      go_wp2_with fail
      refine (Hand.dots_Stuff.calls A0 c0 l0 _ _ _ (Kd.C_drewN HR.out _) hc0 HST.out).mono ?_
      rintro e w3 ⟨rfl, hb3⟩
      have HB3 := Aside0.mk (show Below w.heap.size w w3 from (pw_below_drewN (Below.refl _ _) (nd + nd2)).trans (hb3.mono (Nat.le_refl _)))
      clear hb3
      go_wp2_with fail
      have hcap := grownCap_ge w3 (mkS (stuffed l0)).size 0 5
      generalize grownCap w3 (mkS (stuffed l0)).size 0 5 = cap at hcap ⊢
      have hsz : (mkS (stuffed l0)).size = (numsL (stuffed l0)).length := by rw [nums_len]; exact mk_size _
      have hrd : Kd.C (Kd.int .u8) (w3.alloc (.cells (bytesRow (mkS (stuffed l0)) cap) 5 ((bytesRow (mkS (stuffed l0)) cap).size, (bytesRow (mkS (stuffed l0)) cap).size + 1))).drew (some ⟨w3.heap.size, 0, none⟩) (numsL (stuffed l0)).length (numsL (stuffed l0)) := by
        refine C_bytes _ _ _ (by omega) (fun j hj => ?_)
        rw [Addr.add_lit, Nat.zero_add]
        show (w3.alloc _).cell? _ = _
        rw [cell_of_row _ w3.heap.size j _ _ _ (heap_alloc_new w3 _)]
        rw [bytesRow_at (mkS (stuffed l0)) cap j (by show j < (stuffed l0).toArray.size; simpa using hj)]
        simp [mkS]
      rw [hsz] at hcap
      rw [hsz]
      have HRD := Aside0.mk hrd
      have HCAP := Aside0.mk hcap
      clear hrd hcap hsz
      refine (Hand.Lines_read K3 _ _ _ _ _ _ _ HRD.out HCAP.out HL.out).mono ?_
      rintro e w4 ⟨v5, A6, c6, rfl, hR5, hR6, hc6, hb4⟩
      have HB4 := Aside0.mk (show Below w.heap.size w w4 from (HB3.out.alloc HB3.out.size _).drew.trans (hb4.mono (Nat.le_trans HB3.out.size (by simp))))
      obtain ⟨A5, c5, rfl, hc5, hC5⟩ := Kd.R_reads hR5
      have hl5 : (backs l0 ++ [(⟨1, mkS [46]⟩ : SLine)]).length = l0.length + 1 := by unfold backs; simp
      rw [hl5] at hC5 hc5
      rw [hl5]
      have HC5 := Aside0.mk hC5
      have HL5 := Aside0.mk hl5
      clear hR5 hC5 hR6 hb4 hl5
      rw [show (([] : List Int).length) = 0 from rfl]
      have hwr : wrap64 ((l0.length : Int) + 1) = ((l0.length + 1 : Nat) : Int) := by unfold wrap64; omega
      have b1 : (((l0.length + 1 : Nat) : Int) != ((l0.length + 1 : Nat) : Int)) = false := by simp
      go_wp2
      go_loopw [7] (fun v7 wr => ∃ k : Nat, v7 = .int .i64 k ∧ k ≤ l0.length + 1 ∧ Aside0 (Drawn0 w4 wr)) (fun v7 _ => l0.length + 1 - (intOf v7).toNat)
      case atStart => exact ⟨0, rfl, Nat.zero_le _, ⟨Drawn0.refl _⟩⟩
      case round =>
        obtain ⟨k, rfl, hk, HI⟩ := hrel
        obtain ⟨nr, rfl⟩ := HI.out
        have hln : l0.length < 200000 := by omega
        by_cases hlt : k < l0.length
        · obtain ⟨ad5, rfl, hx0, hx1⟩ := at_T37 HC5.out (k : Int) (by omega) (by omega)
          obtain ⟨ad0, rfl, hy⟩ := Kd.at_string HR.out (k : Int) (by omega) (by omega)
          rw [Int.toNat_natCast] at hx0 hx1 hy
          have e5 : rd_T37 (backs l0 ++ [⟨1, mkS [46]⟩]) (k : Int) = ⟨1, mkS (dotted l0[k])⟩ := by
            unfold rd_T37 backs
            rw [Int.toNat_natCast, List.getD_eq_getElem?_getD, List.getElem?_append_left (by rw [List.length_map]; exact hlt), List.getElem?_map, List.getElem?_eq_getElem hlt]
            rfl
          rw [e5] at hx0 hx1
          rw [rd_at l0 k hlt] at hy
          obtain ⟨s, hs⟩ : ∃ s, s = l0[k] := ⟨_, rfl⟩
          rw [← hs] at hx0 hx1 hy
          have hx0r : ∀ m, (w4.drewN m).cell? (ad5.add (k * 2)) = some (.int .i64 1) := fun _ => hx0
          have hx1r : ∀ m, (w4.drewN m).cell? ⟨(ad5.add (k * 2)).block, (ad5.add (k * 2)).off + 1, none⟩ = some (.string (mkS (dotted s))) := fun _ => hx1
          have hyr : ∀ m, (w4.drewN m).cell? (ad0.add k) = some (.string s) := fun m => pw_cell_below (show Below w.heap.size w (w4.drewN m) from pw_below_drewN HB4.out m) hy
          have q1 : (k : Int) < ((l0.length + 1 : Nat) : Int) := by omega
          have q2 : 0 ≤ (k : Int) := by omega
          have q3 : (k : Int) < (l0.length : Int) := by omega
          have q4 : ((k : Int) == (l0.length : Int)) = false := beq_eq_false_iff_ne.2 (by omega)
          clear hx0 hx1 hy e5 hs
          have HU := Aside0.mk (back_one s)
          have q5 : (k : Int) < (l0.length : Int) + 1 := by omega
          go_wp2_with fail
          refine (PB.dots_Unstuff.calls _ _ _ _ HU.out).mono ?_
          rintro e w5 ⟨rfl, nd5, rfl⟩
          go_wp2
          go_roundw
          case rel => exact ⟨k + 1, by go_num, by omega, ⟨⟨_, rfl⟩⟩⟩
          case measure => simp [intOf]; omega
        · by_cases hlt2 : k < l0.length + 1
          · obtain rfl : k = l0.length := by omega
            obtain ⟨ad5, rfl, hx0, hx1⟩ := at_T37 HC5.out (l0.length : Int) (by omega) (by omega)
            rw [Int.toNat_natCast] at hx0 hx1
            have e5 : rd_T37 (backs l0 ++ [⟨1, mkS [46]⟩]) (l0.length : Int) = ⟨1, mkS [46]⟩ := by
              unfold rd_T37 backs
              rw [Int.toNat_natCast, List.getD_eq_getElem?_getD, List.getElem?_append_right (by rw [List.length_map]; exact Nat.le_refl _), List.length_map, Nat.sub_self]
              rfl
            rw [e5] at hx0 hx1
            have hx0r : ∀ m, (w4.drewN m).cell? (ad5.add (l0.length * 2)) = some (.int .i64 1) := fun _ => hx0
            have hx1r : ∀ m, (w4.drewN m).cell? ⟨(ad5.add (l0.length * 2)).block, (ad5.add (l0.length * 2)).off + 1, none⟩ = some (.string (mkS [46])) := fun _ => hx1
            have q2 : 0 ≤ (l0.length : Int) := by omega
            have q5 : (l0.length : Int) < (l0.length : Int) + 1 := by omega
            clear hx0 hx1 e5
            have HU := Aside0.mk back_end
            go_wp2_with fail
            refine (PB.dots_Unstuff.calls _ _ _ _ HU.out).mono ?_
            rintro e w5 ⟨rfl, nd5, rfl⟩
            go_wp2
            go_roundw
            case rel => exact ⟨l0.length + 1, by go_num, by omega, ⟨⟨_, rfl⟩⟩⟩
            case measure => simp [intOf]
          · obtain rfl : k = l0.length + 1 := by omega
            go_wp2_with fail
            refine (PB.estafettelaw05_answers.calls true _ answers_eq).mono ?_
            rintro e w6 ⟨rfl, hb6⟩
            have HB := Aside0.mk (show Below w.heap.size w w6 from (pw_below_drewN HB4.out nr).trans (hb6.mono HB4.out.size))
            clear hb6
            go_wp2
            go_ret
            exact ⟨rfl, HB.out⟩
end Go.Proofs.Ytpplahmnlgokbaa.Dots
