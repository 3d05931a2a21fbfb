/- The contract of crc.Open. -/
import Derived.Test.YtbfmjbkhnbpbgaaGreatDoorRdw
import Derived.Test.YtbfmjbkhnbpbgaaGreatDoorSeal
import Derived.Test.YtbfmjbkhnbpbgaaGreatDoorShelf
set_option linter.unusedVariables false
set_option linter.unusedSimpArgs false
namespace Go.Proofs.YtbfmjbkhnbpbgaaGreatDoor.H
open Go.RowKit Go.Proofs.YtbfmjbkhnbpbgaaGreatDoorW.PrintWords Go.Proofs.YtbfmjbkhnbpbgaaGreatDoorW.PrintLast Go.Proofs.YtbfmjbkhnbpbgaaGreatDoorW.PrintMore
open Go.Proofs.YtbfmjbkhnbpbgaaGreatDoor.PF Go.Proofs.YtbfmjbkhnbpbgaaGreatDoor.Pl
theorem bytesOf_inj : ∀ {xs ys : List Int}, Bytes xs → Bytes ys → Lib.bytesOf xs = Lib.bytesOf ys → xs = ys
  | [], [], _, _, _ => rfl
  | [], _ :: _, _, _, h => by simp [Lib.bytesOf] at h
  | _ :: _, [], _, _, h => by simp [Lib.bytesOf] at h
  | x :: xs, y :: ys, hx, hy, h => by
    simp only [Lib.bytesOf, List.map_cons, List.cons.injEq] at h
    have h1 := hx x (by simp)
    have h2 := hy y (by simp)
    have h3 := congrArg UInt8.toNat h.1
    rw [UInt8.toNat_ofNat', UInt8.toNat_ofNat'] at h3
    rw [bytesOf_inj (fun z hz => hx z (by simp [hz])) (fun z hz => hy z (by simp [hz])) h.2, show x = y by omega]
theorem bytesOf_eq {xs ys : List Int} (hx : Bytes xs) (hy : Bytes ys) : (Lib.bytesOf xs == Lib.bytesOf ys) = decide (xs = ys) := by
  by_cases h : xs = ys
  · subst h; simp
  · rw [decide_eq_false h]
    exact beq_eq_false_iff_ne.mpr (fun e => h (bytesOf_inj hx hy e))
theorem Bytes.take {l : List Int} (h : Bytes l) (m : Nat) : Bytes (l.take m) := fun x hx => h x (List.mem_of_mem_take hx)
set_option maxHeartbeats 400000 in
set_option maxRecDepth 100000 in
theorem crc_Open_short (A0 : Option Addr) (c0 : Nat) (l0 : List Int) (w : World) (h : l0.length < 4) :
    Calls Tryz.prog 28 #[.slice A0 l0.length c0] w fun e w' => e = .returned (.tuple #[.slice none 0 0, .iface 46 (.int .i64 2)]) ∧ Below w.heap.size w w' := by
  go_enter Tryz.func28, Tryz.ntmps28
  go_wp2
  go_ret2
  exact ⟨rfl, Below.refl _ _⟩
theorem conv_of_C {w : World} {A : Option Addr} {n c : Nat} {xs : List Int} (h : (Kd.int .u8).C w A n xs) : (convert 22 9 (.slice A n c)).run Tryz.prog w = .ok (.string (strOfNums xs)) w :=
  Kd.C_string Tryz.underlying22 Tryz.underlying5 Tryz.underlying9 h
theorem conv_own {w W : World} {base : Nat} {v : Value} {l : List Int} (h : Kd.R (Kd.int .u8) 5 W base (fun _ => True) v l) : (convert 22 9 v).run Tryz.prog W = .ok (.string (strOfNums l)) W := by
  obtain ⟨A, c, rfl, hl, hC⟩ := Kd.R_reads h
  exact Kd.C_string Tryz.underlying22 Tryz.underlying5 Tryz.underlying9 hC
set_option maxHeartbeats 800000 in
set_option maxRecDepth 100000 in
theorem crc_Open_sum (A0 : Option Addr) (c0 : Nat) (l0 : List Int) (w : World) (hr0 : Kd.C (Kd.int .u8) w A0 l0.length l0) (hc0 : l0.length ≤ c0) (hby : Bytes l0) (hlen : l0.length ≤ 140737488355000) (h4 : 4 ≤ l0.length) (hs : sealed (l0.take (l0.length - 4)) ≠ l0) :
    Calls Tryz.prog 28 #[.slice A0 l0.length c0] w fun e w' => e = .returned (.tuple #[.slice none 0 0, .iface 46 (.int .i64 7)]) ∧ Below w.heap.size w w' := by
  have HR := Aside0.mk hr0
  have ht := Kd.C_take (m := l0.length - 4) hr0 (by omega)
  have htl : (l0.take (l0.length - 4)).length = l0.length - 4 := by rw [List.length_take]; omega
  have HS := Aside0.mk (crc_Seal A0 c0 (l0.take (l0.length - 4)) w ht (by omega) (hby.take _) (by omega))
  rw [htl] at HS
  have HD := Aside0.mk (bytesOf_eq hby (seal_bytes (hby.take (l0.length - 4))))
  have hd : decide (l0 = sealed (l0.take (l0.length - 4))) = false := decide_eq_false (fun e => hs e.symm)
  rw [hd] at HD
  clear hr0 ht htl hd hs
  go_enter Tryz.func28, Tryz.ntmps28
  go_wp2_with fail
  refine HS.out.mono ?_
  rintro e w' ⟨v, rfl, hm, hb⟩
  have HB := Aside0.mk hb
  have HV := Aside0.mk (conv_own (w := w) hm)
  clear hm hb HS
  go_wp2_with fail
  refine (Tryz.bytes_Equal _ _ l0 _ w' (conv_of_C (Kd.C_below HR.out HB.out)) HV.out).mono ?_
  rintro e w'' ⟨rfl, rfl⟩
  rw [HD.out]
  go_wp2
  go_ret2
  exact ⟨rfl, HB.out⟩
set_option maxHeartbeats 800000 in
set_option maxRecDepth 100000 in
theorem crc_Open_ok (A0 : Option Addr) (c0 : Nat) (l0 l : List Int) (w : World) (hr0 : Kd.C (Kd.int .u8) w A0 l0.length l0) (hc0 : l0.length ≤ c0) (hby : Bytes l) (hlen : l0.length ≤ 140737488355000) (hs : l0 = sealed l) :
    Calls Tryz.prog 28 #[.slice A0 l0.length c0] w fun e w' => ∃ v, e = .returned (.tuple #[v, .nilIface]) ∧ MadeB w w' v l ∧ Below w.heap.size w w' := by
  have HR := Aside0.mk hr0
  have hl : l0.length = l.length + 4 := by rw [hs, seal_length]
  have htk : l0.take (l0.length - 4) = l := by rw [hl, Nat.add_sub_cancel, hs]; exact List.take_left' rfl
  have ht := Kd.C_take (m := l0.length - 4) hr0 (by omega)
  rw [htk] at ht
  have HT := Aside0.mk ht
  have HS := Aside0.mk (crc_Seal A0 c0 l w ht (by omega) hby (by omega))
  rw [← hs] at HS
  have HD := Aside0.mk (beq_self_eq_true (Lib.bytesOf l0))
  have HL := Aside0.mk hl
  have hl4 : l0.length - 4 = l.length := by omega
  have h4 : 4 ≤ l0.length := by omega
  clear hr0 ht htk hs hl
  go_enter Tryz.func28, Tryz.ntmps28
  go_wp2_with fail
  rw [hl4]
  refine HS.out.mono ?_
  rintro e w' ⟨v, rfl, hm, hb⟩
  have HB := Aside0.mk hb
  have HV := Aside0.mk (conv_own (w := w) hm)
  clear hm hb HS
  go_wp2_with fail
  refine (Tryz.bytes_Equal _ _ l0 _ w' (conv_of_C (Kd.C_below HR.out HB.out)) HV.out).mono ?_
  rintro e w'' ⟨rfl, rfl⟩
  rw [HD.out]
  clear HR HD HV
  go_wp2_with (first | ((with_reducible refine gate_dst (N := 21) rfl ?_); refine Kd.R_lit (Kd.int .u8) (w0 := w) w.heap.size 5 ?hg (N := 21) ?hd (xs := ([] : List Int)) (inner := []) (ok := fun _ => True) (okp := fun _ => True) ?hr ?hp (fun _ hk => hk) trivial HB.out (below_size HB.out) (by simp) ?_; (case hd => rfl); (case hg => rfl); (case hr => first | (go_simp; done) | (go_simp; rfl)); (case hp => exact (Reps.none _ _)); intro v3 w3 ho hb hg_ hnew_; have HO := Aside0.mk ho; have HG := Aside0.mk hg_; have HB3 := Aside0.mk hb; clear ho hb hg_ hnew_) | ((with_reducible refine gate_builtin (b := .append) (xs := #[.tmp 21, .tmp 24]) rfl ?_); at_builtin; refine Kd.R_append_rows (Kd.int .u8) (w0 := w) w.heap.size rfl (.tmp 21) (.tmp 24) 22 5 (.int .u8 0) 1 rfl Tryz.underlying22 info5 rfl (by decide) (by omega) v3 [] l A0 l.length c0 (fun _ => True) (fun _ => False) rfl ?hx HO.out (Kd.C_below HT.out HB3.out) (fun _ _ h => h) (fun _ h => h.elim) (fun _ _ => trivial) HB3.out (below_size HB3.out) (by simp; omega) ?_; (case hx => show Value.slice A0 _ c0 = _; rw [hl4]); intro v4 w4 ho hb hg hat; have HO4 := Aside0.mk ho; have HB4 := Aside0.mk hb; clear ho hb hg hat))
  go_ret2
  exact ⟨_, rfl, by have := HO4.out; rwa [List.nil_append] at this, HB4.out⟩
end Go.Proofs.YtbfmjbkhnbpbgaaGreatDoor.H
