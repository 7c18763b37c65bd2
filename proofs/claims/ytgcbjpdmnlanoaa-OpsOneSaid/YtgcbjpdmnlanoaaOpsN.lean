/- WALK of OpsOne. -/
import Derived.Test.YtgcbjpdmnlanoaaOpsM
namespace Go.Proofs.Ytgcbjpdmnlanoaa
open Go.RowKit
open Fl (nan key canon)
set_option maxRecDepth 100000 in
set_option maxHeartbeats 8000000 in
theorem lone_any (a : Option Addr) (len cap rb ro : Nat) (f : Nat → Stp) (a2 : Option Addr) (len2 cap2 rb2 ro2 : Nat) (f2 : Nat → Rc) (w : World) (hln : len ≤ 9223372036854775807) (ha : 0 < len → a = some ⟨rb, ro, none⟩) (hr : 0 < len → Stps w rb ro len f)
    (hln2 : len2 ≤ 9223372036854775807) (ha2 : 0 < len2 → a2 = some ⟨rb2, ro2, none⟩) (hr2 : 0 < len2 → Rcs w rb2 ro2 len2 f2) :
    Calls Try.prog 5 #[.slice a len cap, .slice a2 len2 cap2] w fun e w' => e = .returned (.bool true) ∧ Below w.heap.size w w' := by
  have C0 := Lib.hid oawake_any
  have HA := Lib.hid ha
  have HR := Lib.hid hr
  have HL := Lib.hid hln
  have HA2 := Lib.hid ha2
  have HR2 := Lib.hid hr2
  have HL2 := Lib.hid hln2
  clear hr hln ha ha2 hr2 hln2
  go_enter Try.func5, Try.ntmps5
  go_wp2_with fail
  refine (C0.out _).mono ?_
  rintro e w1 ⟨rfl, hb⟩
  have p1 : Below w.heap.size w w1 := (by repeat' (first | with_reducible exact Below.refl _ _ | with_reducible assumption | with_reducible refine bel_drew ?_ | with_reducible refine bel_alloc ?_ _ | with_reducible refine bel_set ?_ ?_ _ | with_reducible refine bel_call ?_ (by assumption) | (dsimp only; omega) | (simp; done) | (simp; omega)))
  clear hb
  go_wp2_with fail
  go_loopg [5] len (fun g s5 wr => ∃ (i : Nat), i ≤ len ∧ g = len - i ∧ s5 = .int .i64 i ∧ Below w.heap.size w wr)
  case atStart => exact ⟨0, Nat.zero_le _, rfl, rfl, p1⟩
  case round =>
    clear p1 C0
    obtain ⟨i, hi, rfl, rfl, p⟩ := hrel
    by_cases hlt : i < len
    · have hz2 : (i : Int) < (len : Int) := by omega
      have hw1 : IntKind.i64.wrap ((i : Int) + 1) = (i : Int) + 1 := Go.IntWalk.i64_in _ (by have := HL.out; omega)
      by_cases h64 : (i : Int) < 64
      · obtain rfl := HA.out (by omega)
        have hr := Lib.hid (HR.out (by omega))
        have XO : Hid (∀ w', Below w.heap.size w w' → rb < w'.heap.size ∧ w'.cell? ⟨rb, ro + i * 3, none⟩ = some (.int .i64 (f i).kind) ∧ w'.cell? ⟨rb, ro + i * 3 + 1, none⟩ = some (.int .i64 (f i).n) ∧ w'.cell? ⟨rb, ro + i * 3 + 2, none⟩ = some (.float .f64 (f i).x)) := Lib.hid (fun w' p => hr.out.cells hlt p)
        have HOk := Lib.hid (hr.out.ok i hlt)
        clear hr
        generalize f i = o at *
        obtain ⟨kd, n, y⟩ := o
        dsimp only at *
        go_wp2_with fail
        go_loopg [6] len2 (fun g s6 wi => ∃ (k : Nat), k ≤ len2 ∧ g = len2 - k ∧ s6 = .int .i64 k ∧ Below w.heap.size w wi)
        case atStart => exact ⟨0, Nat.zero_le _, rfl, rfl, p⟩
        case round =>
          clear p
          obtain ⟨k, hk, rfl, rfl, p⟩ := hrel
          by_cases hlk : k < len2
          · have hz3 : (k : Int) < (len2 : Int) := by omega
            have hw2 : IntKind.i64.wrap ((k : Int) + 1) = (k : Int) + 1 := Go.IntWalk.i64_in _ (by have := HL2.out; omega)
            by_cases k64 : (k : Int) < 64
            · obtain rfl := HA2.out (by omega)
              have hr2 := Lib.hid (HR2.out (by omega))
              have XX : Hid (∀ w', Below w.heap.size w w' → rb2 < w'.heap.size ∧ w'.cell? ⟨rb2, ro2 + k * 2, none⟩ = some (.int .u64 (f2 k).key) ∧ w'.cell? ⟨rb2, ro2 + k * 2 + 1, none⟩ = some (.float .f64 (f2 k).val)) := Lib.hid (fun w' p => hr2.out.cells hlk p)
              have C1 := Lib.hid (fun w => one_any' ⟨kd, n, y⟩ (f2 k) w HOk.out (hr2.out.ok k hlk) _ rfl)
              have C2 := Lib.hid (fun w => rone_any ⟨kd, n, y⟩ (f2 k) w HOk.out (hr2.out.ok k hlk))
              have C5 := Lib.hid (fun w => osame_any (one ⟨kd, n, y⟩ (f2 k)).1 (one ⟨kd, n, y⟩ (f2 k)).1 w)
              rw [sameR_self] at C5
              clear hr2
              generalize one ⟨kd, n, y⟩ (f2 k) = T at *
              generalize f2 k = r at *
              obtain ⟨⟨tk, tv⟩, tf⟩ := T
              obtain ⟨rk, rv⟩ := r
              dsimp only at *
              have hE1 : (tf != tf) = false := by simp
              obtain ⟨rz, x0, x1⟩ := XX.out _ p
              obtain ⟨oz, y0, y1, y2⟩ := XO.out _ p
              go_wp2_with fail
              refine wp_region_ghost (NewC _ 12 13 [.int .u64 tk, .float .f64 tv] [.int .u64 0, .float .f64 0] 31) (by kernel_rfl) (by kernel_rfl) NewC.loc (.begin (Below.refl _ _).drew rfl) ?_
              refine lexg_val (fun _ => by rfl) ?_; apply Exists.intro; refine ⟨?_, ?_⟩; ((intro g L w' hU hT; have hT' := hT.upd (i := 0) (by decide) (by decide); obtain ⟨hc, hf⟩ := bcell hT.bel; clear hT hU; go_simp; exact rfl)); simp only [Act.put, List.setIfInBounds_toArray, List.set_cons_zero, List.set_cons_succ]
              refine lexg_val (fun _ => by rfl) ?_; apply Exists.intro; refine ⟨?_, ?_⟩; ((intro g L w' hU hT; have hT' := hT.upd (i := 1) (by decide) (by decide); obtain ⟨hc, hf⟩ := bcell hT.bel; clear hT hU; go_simp; exact rfl)); simp only [Act.put, List.setIfInBounds_toArray, List.set_cons_zero, List.set_cons_succ]
              refine lexg_val (fun _ => by rfl) ?_; apply Exists.intro; refine ⟨?_, ?_⟩; ((intro g L w' hU hT; have hT' := hT.upd (i := 2) (by decide) (by decide); obtain ⟨hc, hf⟩ := bcell hT.bel; clear hT hU; go_simp; exact rfl)); simp only [Act.put, List.setIfInBounds_toArray, List.set_cons_zero, List.set_cons_succ]
              refine lexg_val (fun _ => by rfl) ?_; apply Exists.intro; refine ⟨?_, ?_⟩; ((intro g L w' hU hT; have hT' := hT.upd (i := 3) (by decide) (by decide); obtain ⟨hc, hf⟩ := bcell hT.bel; clear hT hU; go_simp; exact rfl)); simp only [Act.put, List.setIfInBounds_toArray, List.set_cons_zero, List.set_cons_succ]
              refine lexg_val (fun _ => by rfl) ?_; apply Exists.intro; refine ⟨?_, ?_⟩; ((intro g L w' hU hT; have hT' := hT.upd (i := 4) (by decide) (by decide); obtain ⟨hc, hf⟩ := bcell hT.bel; clear hT hU; go_simp; exact rfl)); simp only [Act.put, List.setIfInBounds_toArray, List.set_cons_zero, List.set_cons_succ]
              refine lexg_val (fun _ => by rfl) ?_; apply Exists.intro; refine ⟨?_, ?_⟩; ((intro g L w' hU hT; have hT' := hT.upd (i := 5) (by decide) (by decide); obtain ⟨hc, hf⟩ := bcell hT.bel; clear hT hU; go_simp; exact rfl)); simp only [Act.put, List.setIfInBounds_toArray, List.set_cons_zero, List.set_cons_succ]
              refine lexg_val (fun _ => by rfl) ?_; apply Exists.intro; refine ⟨?_, ?_⟩; ((intro g L w' hU hT; have hT' := hT.upd (i := 6) (by decide) (by decide); obtain ⟨hc, hf⟩ := bcell hT.bel; clear hT hU; go_simp; exact rfl)); simp only [Act.put, List.setIfInBounds_toArray, List.set_cons_zero, List.set_cons_succ]
              refine lexg_val (fun _ => by rfl) ?_; apply Exists.intro; refine ⟨?_, ?_⟩; ((intro g L w' hU hT; have hT' := hT.upd (i := 7) (by decide) (by decide); obtain ⟨hc, hf⟩ := bcell hT.bel; clear hT hU; go_simp; exact rfl)); simp only [Act.put, List.setIfInBounds_toArray, List.set_cons_zero, List.set_cons_succ]
              refine lexg_val (fun _ => by rfl) ?_; apply Exists.intro; refine ⟨?_, ?_⟩; ((intro g L w' hU hT; have hT' := hT.upd (i := 8) (by decide) (by decide); obtain ⟨hc, hf⟩ := bcell hT.bel; clear hT hU; go_simp; first | exact rfl | exact (C1.out _).mono fun e w'' ⟨he, hb⟩ => ⟨he, hT'.next hb⟩)); simp only [Act.put, List.setIfInBounds_toArray, List.set_cons_zero, List.set_cons_succ]
              refine lexg_val (fun _ => by rfl) ?_; apply Exists.intro; refine ⟨?_, ?_⟩; ((intro g L w' hU hT; have hT' := hT.upd (i := 9) (by decide) (by decide); obtain ⟨hc, hf⟩ := bcell hT.bel; clear hT hU; go_simp; exact rfl)); simp only [Act.put, List.setIfInBounds_toArray, List.set_cons_zero, List.set_cons_succ]
              refine lexg_val (fun _ => by rfl) ?_; apply Exists.intro; refine ⟨?_, ?_⟩; ((intro g L w' hU hT; have hT' := hT.upd (i := 10) (by decide) (by decide); obtain ⟨hc, hf⟩ := bcell hT.bel; clear hT hU; go_simp; exact rfl)); simp only [Act.put, List.setIfInBounds_toArray, List.set_cons_zero, List.set_cons_succ]
              refine lexg_val (fun _ => by rfl) ?_; apply Exists.intro; refine ⟨?_, ?_⟩; ((intro g L w' hU hT; have hT' := hT.upd (i := 11) (by decide) (by decide); obtain ⟨hc, hf⟩ := bcell hT.bel; clear hT hU; go_simp; exact rfl)); simp only [Act.put, List.setIfInBounds_toArray, List.set_cons_zero, List.set_cons_succ]
              refine lexg_alloc (fun b => .pointer (some ⟨b, 0, none⟩)) (fun _ => by rfl) ?_ ?_; ((intro g L w' hU hT; refine ⟨w'.heap.size, _, ?_, hT.alloc (hU.closed.no (j := 13) rfl (by kernel_rfl) hU.not) (by decide)⟩; clear hT hU; go_simp)); simp only [Nat.reduceAdd]; simp only [Act.put, List.setIfInBounds_toArray, List.set_cons_zero, List.set_cons_succ]
              refine lexg_op (fun _ => by rfl) ?_; refine ⟨fun _ => undef, ?_, known_const _ _, ?_⟩; ((intro g L w' hU hT; have hK : L 12 = true := hU.yes (m := 12) rfl (by kernel_rfl); have hL := hU.not; have hT' := hT.store hK hL rfl; have hB := (hT.blk hK).2; rw [hL, if_neg (by decide)] at hB; have zc0 := hB.cell 0; have zf0 := hB.free 0; have zc1 := hB.cell 1; have zf1 := hB.free 1; simp only [List.getElem?_cons_zero, List.getElem?_cons_succ] at zc0 zc1; clear hT hU hK; go_simp; first | exact hT' | exact ⟨hT', rfl⟩)); simp only [Act.put]
              refine lexg_val (fun _ => by rfl) ?_; apply Exists.intro; refine ⟨?_, ?_⟩; ((intro g L w' hU hT; have hT' := hT.upd (i := 14) (by decide) (by decide); obtain ⟨hc, hf⟩ := bcell hT.bel; clear hT hU; go_simp; exact rfl)); simp only [Act.put, List.setIfInBounds_toArray, List.set_cons_zero, List.set_cons_succ]
              refine lexg_nil ?_; intro g w3 hT; have bel_w3 := hT.bel; have n_w3 := (hT.blk rfl).1; have q_w3 := (hT.blk rfl).2; clear hT; rw [if_pos rfl] at q_w3; dsimp only; generalize g 12 = b3 at *; clear g
              have p3 : Below w.heap.size w w3 := (by repeat' (first | with_reducible exact Below.refl _ _ | with_reducible assumption | with_reducible refine bel_drew ?_ | with_reducible refine bel_alloc ?_ _ | with_reducible refine bel_set ?_ ?_ _ | with_reducible refine bel_call ?_ (by assumption) | (dsimp only; omega) | (simp; done) | (simp; omega)))
              clear bel_w3 n_w3 rz x0 x1 oz y0 y1 y2 p
              obtain ⟨rz, x0, x1⟩ := XX.out _ p3
              obtain ⟨oz, y0, y1, y2⟩ := XO.out _ p3
              go_wp2_with fail
              refine wp_region_ghost (NewC _ 12 13 [.int .u64 tk, .float .f64 tv] [.int .u64 0, .float .f64 0] 31) (by kernel_rfl) (by kernel_rfl) NewC.loc (.begin (Below.refl _ _).drew rfl) ?_
              refine lexg_val (fun _ => by rfl) ?_; apply Exists.intro; refine ⟨?_, ?_⟩; ((intro g L w' hU hT; have hT' := hT.upd (i := 0) (by decide) (by decide); obtain ⟨hc, hf⟩ := bcell hT.bel; clear hT hU; go_simp; exact rfl)); simp only [Act.put, List.setIfInBounds_toArray, List.set_cons_zero, List.set_cons_succ]
              refine lexg_val (fun _ => by rfl) ?_; apply Exists.intro; refine ⟨?_, ?_⟩; ((intro g L w' hU hT; have hT' := hT.upd (i := 1) (by decide) (by decide); obtain ⟨hc, hf⟩ := bcell hT.bel; clear hT hU; go_simp; exact rfl)); simp only [Act.put, List.setIfInBounds_toArray, List.set_cons_zero, List.set_cons_succ]
              refine lexg_val (fun _ => by rfl) ?_; apply Exists.intro; refine ⟨?_, ?_⟩; ((intro g L w' hU hT; have hT' := hT.upd (i := 2) (by decide) (by decide); obtain ⟨hc, hf⟩ := bcell hT.bel; clear hT hU; go_simp; exact rfl)); simp only [Act.put, List.setIfInBounds_toArray, List.set_cons_zero, List.set_cons_succ]
              refine lexg_val (fun _ => by rfl) ?_; apply Exists.intro; refine ⟨?_, ?_⟩; ((intro g L w' hU hT; have hT' := hT.upd (i := 3) (by decide) (by decide); obtain ⟨hc, hf⟩ := bcell hT.bel; clear hT hU; go_simp; exact rfl)); simp only [Act.put, List.setIfInBounds_toArray, List.set_cons_zero, List.set_cons_succ]
              refine lexg_val (fun _ => by rfl) ?_; apply Exists.intro; refine ⟨?_, ?_⟩; ((intro g L w' hU hT; have hT' := hT.upd (i := 4) (by decide) (by decide); obtain ⟨hc, hf⟩ := bcell hT.bel; clear hT hU; go_simp; exact rfl)); simp only [Act.put, List.setIfInBounds_toArray, List.set_cons_zero, List.set_cons_succ]
              refine lexg_val (fun _ => by rfl) ?_; apply Exists.intro; refine ⟨?_, ?_⟩; ((intro g L w' hU hT; have hT' := hT.upd (i := 5) (by decide) (by decide); obtain ⟨hc, hf⟩ := bcell hT.bel; clear hT hU; go_simp; exact rfl)); simp only [Act.put, List.setIfInBounds_toArray, List.set_cons_zero, List.set_cons_succ]
              refine lexg_val (fun _ => by rfl) ?_; apply Exists.intro; refine ⟨?_, ?_⟩; ((intro g L w' hU hT; have hT' := hT.upd (i := 6) (by decide) (by decide); obtain ⟨hc, hf⟩ := bcell hT.bel; clear hT hU; go_simp; exact rfl)); simp only [Act.put, List.setIfInBounds_toArray, List.set_cons_zero, List.set_cons_succ]
              refine lexg_val (fun _ => by rfl) ?_; apply Exists.intro; refine ⟨?_, ?_⟩; ((intro g L w' hU hT; have hT' := hT.upd (i := 7) (by decide) (by decide); obtain ⟨hc, hf⟩ := bcell hT.bel; clear hT hU; go_simp; exact rfl)); simp only [Act.put, List.setIfInBounds_toArray, List.set_cons_zero, List.set_cons_succ]
              refine lexg_val (fun _ => by rfl) ?_; apply Exists.intro; refine ⟨?_, ?_⟩; ((intro g L w' hU hT; have hT' := hT.upd (i := 8) (by decide) (by decide); obtain ⟨hc, hf⟩ := bcell hT.bel; clear hT hU; go_simp; first | exact rfl | exact (C2.out _).mono fun e w'' ⟨he, hb⟩ => ⟨he, hT'.next hb⟩)); simp only [Act.put, List.setIfInBounds_toArray, List.set_cons_zero, List.set_cons_succ]
              refine lexg_val (fun _ => by rfl) ?_; apply Exists.intro; refine ⟨?_, ?_⟩; ((intro g L w' hU hT; have hT' := hT.upd (i := 9) (by decide) (by decide); obtain ⟨hc, hf⟩ := bcell hT.bel; clear hT hU; go_simp; exact rfl)); simp only [Act.put, List.setIfInBounds_toArray, List.set_cons_zero, List.set_cons_succ]
              refine lexg_val (fun _ => by rfl) ?_; apply Exists.intro; refine ⟨?_, ?_⟩; ((intro g L w' hU hT; have hT' := hT.upd (i := 10) (by decide) (by decide); obtain ⟨hc, hf⟩ := bcell hT.bel; clear hT hU; go_simp; exact rfl)); simp only [Act.put, List.setIfInBounds_toArray, List.set_cons_zero, List.set_cons_succ]
              refine lexg_val (fun _ => by rfl) ?_; apply Exists.intro; refine ⟨?_, ?_⟩; ((intro g L w' hU hT; have hT' := hT.upd (i := 11) (by decide) (by decide); obtain ⟨hc, hf⟩ := bcell hT.bel; clear hT hU; go_simp; exact rfl)); simp only [Act.put, List.setIfInBounds_toArray, List.set_cons_zero, List.set_cons_succ]
              refine lexg_alloc (fun b => .pointer (some ⟨b, 0, none⟩)) (fun _ => by rfl) ?_ ?_; ((intro g L w' hU hT; refine ⟨w'.heap.size, _, ?_, hT.alloc (hU.closed.no (j := 13) rfl (by kernel_rfl) hU.not) (by decide)⟩; clear hT hU; go_simp)); simp only [Nat.reduceAdd]; simp only [Act.put, List.setIfInBounds_toArray, List.set_cons_zero, List.set_cons_succ]
              refine lexg_op (fun _ => by rfl) ?_; refine ⟨fun _ => undef, ?_, known_const _ _, ?_⟩; ((intro g L w' hU hT; have hK : L 12 = true := hU.yes (m := 12) rfl (by kernel_rfl); have hL := hU.not; have hT' := hT.store hK hL rfl; have hB := (hT.blk hK).2; rw [hL, if_neg (by decide)] at hB; have zc0 := hB.cell 0; have zf0 := hB.free 0; have zc1 := hB.cell 1; have zf1 := hB.free 1; simp only [List.getElem?_cons_zero, List.getElem?_cons_succ] at zc0 zc1; clear hT hU hK; go_simp; first | exact hT' | exact ⟨hT', rfl⟩)); simp only [Act.put]
              refine lexg_val (fun _ => by rfl) ?_; apply Exists.intro; refine ⟨?_, ?_⟩; ((intro g L w' hU hT; have hT' := hT.upd (i := 14) (by decide) (by decide); obtain ⟨hc, hf⟩ := bcell hT.bel; clear hT hU; go_simp; exact rfl)); simp only [Act.put, List.setIfInBounds_toArray, List.set_cons_zero, List.set_cons_succ]
              refine lexg_nil ?_; intro g w4 hT; have bel_w4 := hT.bel; have n_w4 := (hT.blk rfl).1; have q_w4 := (hT.blk rfl).2; clear hT; rw [if_pos rfl] at q_w4; dsimp only; generalize g 12 = b4 at *; clear g
              have p4 : Below w.heap.size w w4 := (by repeat' (first | with_reducible exact Below.refl _ _ | with_reducible assumption | with_reducible refine bel_drew ?_ | with_reducible refine bel_alloc ?_ _ | with_reducible refine bel_set ?_ ?_ _ | with_reducible refine bel_call ?_ (by assumption) | (dsimp only; omega) | (simp; done) | (simp; omega)))
              have r3 := q_w3.below bel_w4
              clear bel_w4 n_w4 rz x0 x1 oz y0 y1 y2 p3 q_w3
              have r3c0 : w4.cell? ⟨b3, 0, none⟩ = some (.int .u64 tk) := r3.cell 0; have r3c1 : w4.cell? ⟨b3, 1, none⟩ = some (.float .f64 tv) := r3.cell 1; have r3z := r3.lt
              have q_w4c0 : w4.cell? ⟨b4, 0, none⟩ = some (.int .u64 tk) := q_w4.cell 0; have q_w4c1 : w4.cell? ⟨b4, 1, none⟩ = some (.float .f64 tv) := q_w4.cell 1; have q_w4z := q_w4.lt
              go_wp2_with fail
              refine (C5.out _).mono ?_
              rintro e w5 ⟨rfl, hb⟩
              have p5 : Below w.heap.size w w5 := (by repeat' (first | with_reducible exact Below.refl _ _ | with_reducible assumption | with_reducible refine bel_drew ?_ | with_reducible refine bel_alloc ?_ _ | with_reducible refine bel_set ?_ ?_ _ | with_reducible refine bel_call ?_ (by assumption) | (dsimp only; omega) | (simp; done) | (simp; omega)))
              clear hb r3 r3c0 r3c1 r3z q_w4 q_w4c0 q_w4c1 q_w4z p4
              go_wp2_with fail
              go_roundg (len2 - (k + 1))
              case measure => omega
              case rel => exact ⟨k + 1, hlk, rfl, (by first | rfl | simp), (by repeat' (first | with_reducible exact Below.refl _ _ | with_reducible assumption | with_reducible refine bel_drew ?_ | with_reducible refine bel_alloc ?_ _ | with_reducible refine bel_set ?_ ?_ _ | with_reducible refine bel_call ?_ (by assumption) | (dsimp only; omega) | (simp; done) | (simp; omega)))⟩
            · go_wp2_with fail
              go_roundg (len - (i + 1))
              case measure => omega
              case rel => exact ⟨i + 1, hlt, rfl, (by first | rfl | simp), (by repeat' (first | with_reducible exact Below.refl _ _ | with_reducible assumption | with_reducible refine bel_drew ?_ | with_reducible refine bel_alloc ?_ _ | with_reducible refine bel_set ?_ ?_ _ | with_reducible refine bel_call ?_ (by assumption) | (dsimp only; omega) | (simp; done) | (simp; omega)))⟩
          · have hz3 : ¬ (k : Int) < (len2 : Int) := by omega
            go_wp2_with fail
            go_roundg (len - (i + 1))
            case measure => omega
            case rel => exact ⟨i + 1, hlt, rfl, (by first | rfl | simp), (by repeat' (first | with_reducible exact Below.refl _ _ | with_reducible assumption | with_reducible refine bel_drew ?_ | with_reducible refine bel_alloc ?_ _ | with_reducible refine bel_set ?_ ?_ _ | with_reducible refine bel_call ?_ (by assumption) | (dsimp only; omega) | (simp; done) | (simp; omega)))⟩
      · go_wp2_with fail
        go_ret
        exact ⟨rfl, p⟩
    · have hz2 : ¬ ((i : Int) < (len : Int)) := by omega
      go_wp2_with fail
      go_ret
      exact ⟨rfl, p⟩
end Go.Proofs.Ytgcbjpdmnlanoaa
