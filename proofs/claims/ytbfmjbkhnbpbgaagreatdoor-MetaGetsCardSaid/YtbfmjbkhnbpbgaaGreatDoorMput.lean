/- Contracts of meta.put, meta.Put and meta.Mark: the bytes of numbers, sealed. -/
import Derived.Test.YtbfmjbkhnbpbgaaGreatDoorSeal
set_option linter.unusedVariables false
namespace Go.Proofs.YtbfmjbkhnbpbgaaGreatDoor.H
open Go.RowKit Go.Proofs.YtbfmjbkhnbpbgaaGreatDoorW.PrintWords Go.Proofs.YtbfmjbkhnbpbgaaGreatDoorW.PrintLast Go.Proofs.YtbfmjbkhnbpbgaaGreatDoorW.PrintMore
open Go.Proofs.YtbfmjbkhnbpbgaaGreatDoor.PF Go.Proofs.YtbfmjbkhnbpbgaaGreatDoor.Pl
/-- A number and its width: their cells. -/
def kF : Kd (Int × Int) := Kd.pair (Kd.int .i64) (Kd.int .u64)
theorem kF_open {w : World} {x : Int × Int} {cs : List Value} (h : kF.K w x cs) : cs = [.int .i64 x.1, .int .u64 x.2] := by
  obtain ⟨_, _, rfl, rfl, rfl⟩ := h
  exact rfl
theorem kF_mkM (w : World) (base : Nat) (ok : Nat → Prop) (x : Int × Int) : kF.M w base ok x [.int .i64 x.1, .int .u64 x.2] := ⟨[.int .i64 x.1], [.int .u64 x.2], rfl, rfl, rfl⟩
theorem at_F {w : World} {A : Option Addr} {n : Nat} {xs : List (Int × Int)} (h : Kd.C kF w A n xs) (i : Int) (h0 : 0 ≤ i) (h1 : i < n) : ∃ ad, A = some ad ∧ w.cell? (ad.add (i.toNat * 2)) = some (.int .i64 (xs.getD i.toNat (0, 0)).1) ∧ w.cell? ⟨(ad.add (i.toNat * 2)).block, (ad.add (i.toNat * 2)).off + 1, none⟩ = some (.int .u64 (xs.getD i.toNat (0, 0)).2) := by
  obtain ⟨ad, c, e, _, hK, hc0⟩ := Kd.C_get h (0, 0) i h0 h1
  have hc : ∀ j u, c[j]? = some u → w.cell? (ad.add (i.toNat * 2 + j)) = some u := hc0
  obtain rfl := kF_open hK
  exact ⟨ad, e, hc 0 _ rfl, by rw [← add_field _ _ 1 (by omega)]; exact hc 1 _ rfl⟩
def fieldsOk (fs : List (Nat × Nat)) : Prop := ∀ p ∈ fs, (p.1 = 1 ∨ p.1 = 2 ∨ p.1 = 4 ∨ p.1 = 8) ∧ p.2 < 256 ^ p.1
def flatB (fs : List (Nat × Nat)) : List Int := (fs.map fun p => beN p.1 p.2).flatten
theorem flatB_snoc (fs : List (Nat × Nat)) (k : Nat) (hk : k < fs.length) : flatB (fs.take (k + 1)) = flatB (fs.take k) ++ beN fs[k].1 fs[k].2 := by
  rw [List.take_succ_eq_append_getElem hk]
  unfold flatB
  rw [List.map_append, List.flatten_append]
  simp
theorem flatB_len (fs : List (Nat × Nat)) (h : fieldsOk fs) : (flatB fs).length ≤ 8 * fs.length := by
  induction fs with
  | nil => simp [flatB]
  | cons p l ih =>
    have := ih (fun q hq => h q (by simp [hq]))
    have h2 := (h p (by simp)).1
    have e : flatB (p :: l) = beN p.1 p.2 ++ flatB l := by simp [flatB]
    rw [e, List.length_append, beN_length, List.length_cons]
    omega
theorem flatB_bytes (fs : List (Nat × Nat)) : Bytes (flatB fs) := by
  induction fs with
  | nil => exact Bytes.nil
  | cons p l ih =>
    have e : flatB (p :: l) = beN p.1 p.2 ++ flatB l := by simp [flatB]
    rw [e]
    exact (beN_bytes _ _).append ih
def asF (fs : List (Nat × Nat)) : List (Int × Int) := fs.map fun p => ((p.1 : Int), (p.2 : Int))
theorem asF_at (fs : List (Nat × Nat)) (k : Nat) (hk : k < fs.length) : (asF fs).getD k (0, 0) = ((fs[k].1 : Int), (fs[k].2 : Int)) := by
  simp [asF, List.getD_eq_getElem?_getD, List.getElem?_eq_getElem hk]
set_option maxHeartbeats 400000 in
set_option maxRecDepth 100000 in
theorem meta_put (A0 : Option Addr) (c0 : Nat) (fs : List (Nat × Nat)) (w : World) (hr0 : Kd.C kF w A0 fs.length (asF fs)) (hok : fieldsOk fs) (hlen : fs.length ≤ 1000) :
    Calls Tryz.prog 25 #[.slice A0 fs.length c0] w fun e w' => ∃ v, e = .returned (.tuple #[v, .nilIface]) ∧ MadeB w w' v (sealed (flatB fs)) ∧ Below w.heap.size w w' := by
  have HR := Aside0.mk hr0
  have HB := Aside0.mk (Below.refl w.heap.size w)
  have HM := Aside0.mk (Kd.R_nil (Kd.int .u8) 5 w w.heap.size (fun _ => True))
  clear hr0
  have hu30 := Tryz.underlying28
  have hu49 := Tryz.underlying67
  go_enter Tryz.func25, Tryz.ntmps25
  go_wp2
  go_loopw [4, 11] (fun v4 v11 wr => ∃ k : Nat, k ≤ fs.length ∧ v11 = .int .i64 k ∧ Aside0 (Kd.R (Kd.int .u8) 5 wr w.heap.size (fun _ => True) v4 (flatB (fs.take k))) ∧ Aside0 (Below w.heap.size w wr)) (fun _ v11 _ => (fs.length - (intOf v11).toNat))
  case atStart => exact ⟨0, by omega, rfl, HM, HB⟩
  case round =>
    clear HM HB
    obtain ⟨k, hk, rfl, HM, HB⟩ := hrel
    obtain ⟨A1, c1, rfl, hl1, hc1⟩ := Kd.R_reads HM.out
    have HC := Aside0.mk hc1
    clear hc1
    by_cases hlt : k < fs.length
    · obtain ⟨ad, rfl, hx0, hx1⟩ := at_F (Kd.C_below HR.out HB.out) k (by omega) (by omega)
      rw [Int.toNat_natCast, asF_at fs k hlt] at hx0 hx1
      obtain ⟨hw, hn⟩ := hok _ (List.getElem_mem hlt)
      have hfl := flatB_snoc fs k hlt
      have hcl := flatB_len (fs.take k) (fun p hp => hok p (List.mem_of_mem_take hp))
      rw [List.length_take] at hcl
      generalize fs[k].1 = wd at hx0 hx1 hw hn hfl
      generalize fs[k].2 = n at hx0 hx1 hw hn hfl
      have HF := Aside0.mk hfl
      have HW := Aside0.mk hw
      clear hfl hw
      go_wp2_with fail
      refine (word_Put' A1 c1 (flatB (fs.take k)) _ _ wd n _ (Kd.C_alloc HC.out _) hl1 rfl rfl HW.out hn (by omega)).mono ?_
      rintro e w' ⟨v, rfl, hm, hb⟩
      have HB' := Aside0.mk (below_step (below_alloc HB.out _) hb)
      have HM' := Aside0.mk (Kd.R_lower hm (below_alloc HB.out _).size)
      rw [← HF.out] at HM'
      clear hm hb HB HM HC HF hx0 hx1
      go_wp2
      go_roundw
      case rel => exact ⟨k + 1, by omega, by go_num, HM', HB'⟩
      case measure => simp [intOf]; omega
    · have e : k = fs.length := by omega
      subst e
      clear hlt hk
      have hcl := flatB_len fs hok
      rw [List.take_length] at HC hl1 HM
      go_wp2_with fail
      refine (crc_Seal A1 c1 (flatB fs) _ HC.out hl1 (flatB_bytes fs) (by omega)).mono ?_
      rintro e w' ⟨v, rfl, hm, hb⟩
      have HB' := Aside0.mk (below_step HB.out hb)
      have HM' := Aside0.mk (Kd.R_lower hm HB.out.size)
      clear hm hb HB HM HC
      go_wp2
      go_ret2
      exact ⟨_, rfl, HM'.out, HB'.out⟩
end Go.Proofs.YtbfmjbkhnbpbgaaGreatDoor.H
