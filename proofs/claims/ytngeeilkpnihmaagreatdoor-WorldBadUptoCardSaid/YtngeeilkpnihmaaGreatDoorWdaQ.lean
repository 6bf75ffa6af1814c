/- The world's laws: it is awake. -/
import Derived.Test.YtngeeilkpnihmaaGreatDoorWd9Q
set_option linter.all false
namespace Go.Proofs.YtngeeilkpnihmaaGreatDoor
open Go Go.Sk Go.RowKit
set_option maxRecDepth 100000

theorem aw_out : aw6.2 = [(⟨3, 0, 0, 2, mvZ, poseO, 0⟩ : Tele)] := by kernel_rfl
theorem aw_l : aw6.1.l = [(⟨1, 0, 0, 0, poseO, ⟨1, 1, 2, poseO, ⟨⟨2, 0⟩, false⟩, 0, 2⟩⟩ : Sight), (⟨2, 2, 0, 0, ⟨⟨2, 0⟩, false⟩, ⟨1, 1, 2, poseO, ⟨⟨2, 0⟩, false⟩, 0, 2⟩⟩ : Sight), (⟨1, 2, 0, 0, ⟨⟨2, 0⟩, false⟩, ⟨3, 0, 0, ⟨⟨2, 0⟩, false⟩, ⟨⟨2, 0⟩, false⟩, 0, 2⟩⟩ : Sight), (⟨4, 4, 0, 7, ⟨⟨2, 0⟩, false⟩, mvZ⟩ : Sight), (⟨2, 4, 0, 0, ⟨⟨2, 0⟩, false⟩, ⟨3, 0, 0, ⟨⟨2, 0⟩, false⟩, ⟨⟨2, 0⟩, false⟩, 0, 2⟩⟩ : Sight)] := by kernel_rfl
theorem aw_now : aw6.1.now = 4 := by kernel_rfl
theorem aw_ok0 : WOk w9P aw0 0 := by
  intro i r hr
  have : [RM.start poseO][i]? = some r := hr
  match i, this with
  | 0, h => injection h with h; subst h; exact RMOk.start ⟨by decide, by decide⟩
theorem teleTyA : SliceTy Tryz.prog 55 58 elTele.sz 152 (Tele.cells ⟨0, 0, 0, 0, mvZ, poseO, 0⟩) :=
  SliceTy.mk' (z := .agg (Tele.cells ⟨0, 0, 0, 0, mvZ, poseO, 0⟩).toArray) (by kernel_rfl) (by kernel_rfl) rfl rfl
/-- A call that turns the world, the second of one's things. -/
theorem calls_wx {c : ConfP} {wp : Nat} {m m' : WM} {ys : List Tele} {f : FuncId} {args : Array Value} {w0 w : World} {F : Nat → Prop} {X : Res} {B L : List Res} (h : Know w0 w F (X :: rWLD c wp m :: B) L) (hs : stepsR ∈ L)
    (hc : ∀ S, Know w w S [rWLD c wp m] [stepsR] → Calls Tryz.prog f args w fun e w' => ∃ ad cap, e = .returned (.slice ad ys.length cap) ∧ Turns [rOw 58 elTele (.slice ad ys.length cap) ys, rWLD c wp m'] w w' S) :
    Calls Tryz.prog f args w fun e w' => ∃ ad cap, e = .returned (.slice ad ys.length cap) ∧ Know w0 w' F (X :: rWLD c wp m' :: rOw 58 elTele (.slice ad ys.length cap) ys :: B) L := by
  have h1 : Know w0 w F ([rWLD c wp m] ++ (X :: B)) L := h.perm (List.Perm.swap _ _ _)
  obtain ⟨S, hKS, back⟩ := Know.focus h1
  refine (hc S (hKS.subL (by simpa using hs))).mono ?_
  rintro e w' ⟨ad, cap, rfl, hT⟩
  refine ⟨ad, cap, rfl, (back w' _ hT).perm ?_⟩
  exact ((List.Perm.cons _ (List.Perm.swap X _ B)).trans (List.Perm.swap X _ _)).trans (List.Perm.cons X (List.Perm.swap _ _ _))
set_option maxHeartbeats 8000000 in
theorem awake19 {w : World} (hst : Has w stepsR) : Calls Tryz.prog 9 #[] w (Ret (.bool true) w) := by
  have hK : Know w w none' [] [stepsR] := Know.start (L := [stepsR]) w (by simpa using hst)
  clear hst
  have kW := Lib.hid (fun (W : World) (r s b : Option Addr) (h1 : Has W (rOw 36 elPose (.slice r 1 1) [poseO])) (h2 : Has W (rOw 3 elInt (.slice b 1 1) [7])) (h3 : Has W (rOw 85 elStack (.slice s 1 1) [(⟨⟨2, 0⟩, ⟨b, [7], 1⟩⟩ : StackV)])) (h4 : Has W stepsR) => (show Calls Tryz.prog 16 #[.agg (w9V r s b).cells.toArray] W fun e w' => ∃ wp, e = .returned (.tuple #[.pointer (some ⟨wp, 0, none⟩), .int .i64 0]) ∧ Turn (rWLD w9P wp aw0) W w' none' from w_new (c := w9V r s b) w9_may (w9_has h1 h2 h3) h4 (w9_sized r s b) (w9_wf r s b)))
  have o1 : WOk w9P aw1 1 := aw_ok0.hear w9_may (by omega)
  have o2 : WOk w9P aw2 2 := o1.tick
  have o3 : WOk w9P aw3 3 := o2.tick
  have o4 : WOk w9P aw4 4 := o3.hear w9_may (by omega)
  have o5 : WOk w9P aw5 5 := o4.tick
  have kH1 := Lib.hid (fun (wp : Nat) (W : World) (S : Nat → Prop) (h : Know W W S [rWLD w9P wp aw0] [stepsR]) => w_hear (t := ⟨1, 0, 0, 1, ⟨1, 1, 2, poseO, ⟨⟨2, 0⟩, false⟩, 0, 2⟩, poseO, 0⟩) (v := (aw1, (aw0.hear w9P ⟨1, 0, 0, 1, ⟨1, 1, 2, poseO, ⟨⟨2, 0⟩, false⟩, 0, 2⟩, poseO, 0⟩).2)) aw_ok0 (by omega) (by decide) (by decide) (by decide) rfl h)
  have kT1 := Lib.hid (fun (wp : Nat) (W : World) (S : Nat → Prop) (h : Know W W S [rWLD w9P wp aw1] [stepsR]) => (show Calls Tryz.prog 19 #[.pointer (some ⟨wp, 0, none⟩)] W fun e w' => ∃ ad cap, e = .returned (.slice ad (aw1.tick w9P).2.length cap) ∧ Turns [rOw 58 elTele (.slice ad (aw1.tick w9P).2.length cap) (aw1.tick w9P).2, rWLD w9P wp aw2] W w' S from w_tick o1 (by omega) (by decide +kernel) (by decide +kernel) (by decide +kernel) (h.subL (by simp))))
  have kT2 := Lib.hid (fun (wp : Nat) (W : World) (S : Nat → Prop) (h : Know W W S [rWLD w9P wp aw2] [stepsR]) => (show Calls Tryz.prog 19 #[.pointer (some ⟨wp, 0, none⟩)] W fun e w' => ∃ ad cap, e = .returned (.slice ad (aw2.tick w9P).2.length cap) ∧ Turns [rOw 58 elTele (.slice ad (aw2.tick w9P).2.length cap) (aw2.tick w9P).2, rWLD w9P wp aw3] W w' S from w_tick o2 (by omega) (by decide +kernel) (by decide +kernel) (by decide +kernel) (h.subL (by simp))))
  have kH2 := Lib.hid (fun (wp : Nat) (W : World) (S : Nat → Prop) (h : Know W W S [rWLD w9P wp aw3] [stepsR]) => w_hear (t := ⟨1, 0, 0, 2, ⟨3, 0, 0, ⟨⟨2, 0⟩, false⟩, ⟨⟨2, 0⟩, false⟩, 0, 2⟩, poseO, 0⟩) (v := (aw4, (aw3.hear w9P ⟨1, 0, 0, 2, ⟨3, 0, 0, ⟨⟨2, 0⟩, false⟩, ⟨⟨2, 0⟩, false⟩, 0, 2⟩, poseO, 0⟩).2)) o3 (by omega) (by decide) (by decide +kernel) (by decide +kernel) rfl h)
  have kT3 := Lib.hid (fun (wp : Nat) (W : World) (S : Nat → Prop) (h : Know W W S [rWLD w9P wp aw4] [stepsR]) => (show Calls Tryz.prog 19 #[.pointer (some ⟨wp, 0, none⟩)] W fun e w' => ∃ ad cap, e = .returned (.slice ad (aw4.tick w9P).2.length cap) ∧ Turns [rOw 58 elTele (.slice ad (aw4.tick w9P).2.length cap) (aw4.tick w9P).2, rWLD w9P wp aw5] W w' S from w_tick o4 (by omega) (by decide +kernel) (by decide +kernel) (by decide +kernel) (h.subL (by simp))))
  obtain ⟨m6, hm6⟩ : ∃ m6, aw6.1 = m6 := ⟨_, rfl⟩
  have kT4 := Lib.hid (fun (wp : Nat) (W : World) (S : Nat → Prop) (h : Know W W S [rWLD w9P wp aw5] [stepsR]) => (show Calls Tryz.prog 19 #[.pointer (some ⟨wp, 0, none⟩)] W fun e w' => ∃ ad cap, e = .returned (.slice ad [(⟨3, 0, 0, 2, mvZ, poseO, 0⟩ : Tele)].length cap) ∧ Turns [rOw 58 elTele (.slice ad [(⟨3, 0, 0, 2, mvZ, poseO, 0⟩ : Tele)].length cap) [(⟨3, 0, 0, 2, mvZ, poseO, 0⟩ : Tele)], rWLD w9P wp m6] W w' S from by
    have := w_tick o5 (by omega) (by decide +kernel) (by decide +kernel) (by decide +kernel) (h.subL (L' := []) (by simp))
    rw [show aw5.tick w9P = aw6 from rfl, aw_out, hm6] at this
    exact this))
  have kSi := Lib.hid (fun (wp : Nat) (W : World) (h : Has W (rWLD w9P wp m6)) => (show Calls Tryz.prog 11 #[.pointer (some ⟨wp, 0, none⟩)] W fun e w' => ∃ ad cap, e = .returned (.slice ad 5 cap) ∧ Turn (rOw 43 elSight (.slice ad 5 cap) [(⟨1, 0, 0, 0, poseO, ⟨1, 1, 2, poseO, ⟨⟨2, 0⟩, false⟩, 0, 2⟩⟩ : Sight), (⟨2, 2, 0, 0, ⟨⟨2, 0⟩, false⟩, ⟨1, 1, 2, poseO, ⟨⟨2, 0⟩, false⟩, 0, 2⟩⟩ : Sight), (⟨1, 2, 0, 0, ⟨⟨2, 0⟩, false⟩, ⟨3, 0, 0, ⟨⟨2, 0⟩, false⟩, ⟨⟨2, 0⟩, false⟩, 0, 2⟩⟩ : Sight), (⟨4, 4, 0, 7, ⟨⟨2, 0⟩, false⟩, mvZ⟩ : Sight), (⟨2, 4, 0, 0, ⟨⟨2, 0⟩, false⟩, ⟨3, 0, 0, ⟨⟨2, 0⟩, false⟩, ⟨⟨2, 0⟩, false⟩, 0, 2⟩⟩ : Sight)]) W w' none' from by
    have := w_sights h (by rw [← hm6, aw_l]; decide)
    rw [← hm6, aw_l] at this
    exact this))
  have kNw := Lib.hid (fun (wp : Nat) (W : World) (h : Has W (rWLD w9P wp m6)) => (show Calls Tryz.prog 12 #[.pointer (some ⟨wp, 0, none⟩)] W (Ret (.int .i64 4) W) from by
    have := w_now h
    rw [← hm6, aw_now] at this
    exact this))
  clear o1 o2 o3 o4 o5 hm6
  have H45 := Lib.hid (show [(⟨3, 0, 0, 2, mvZ, poseO, 0⟩ : Tele)][0]? = some ⟨3, 0, 0, 2, mvZ, poseO, 0⟩ from rfl)
  have H0 := Lib.hid (show [(⟨1, 0, 0, 0, poseO, ⟨1, 1, 2, poseO, ⟨⟨2, 0⟩, false⟩, 0, 2⟩⟩ : Sight), (⟨2, 2, 0, 0, ⟨⟨2, 0⟩, false⟩, ⟨1, 1, 2, poseO, ⟨⟨2, 0⟩, false⟩, 0, 2⟩⟩ : Sight), (⟨1, 2, 0, 0, ⟨⟨2, 0⟩, false⟩, ⟨3, 0, 0, ⟨⟨2, 0⟩, false⟩, ⟨⟨2, 0⟩, false⟩, 0, 2⟩⟩ : Sight), (⟨4, 4, 0, 7, ⟨⟨2, 0⟩, false⟩, mvZ⟩ : Sight), (⟨2, 4, 0, 0, ⟨⟨2, 0⟩, false⟩, ⟨3, 0, 0, ⟨⟨2, 0⟩, false⟩, ⟨⟨2, 0⟩, false⟩, 0, 2⟩⟩ : Sight)][0]? = some ⟨1, 0, 0, 0, poseO, ⟨1, 1, 2, poseO, ⟨⟨2, 0⟩, false⟩, 0, 2⟩⟩ from rfl)
  have H3 := Lib.hid (show [(⟨1, 0, 0, 0, poseO, ⟨1, 1, 2, poseO, ⟨⟨2, 0⟩, false⟩, 0, 2⟩⟩ : Sight), (⟨2, 2, 0, 0, ⟨⟨2, 0⟩, false⟩, ⟨1, 1, 2, poseO, ⟨⟨2, 0⟩, false⟩, 0, 2⟩⟩ : Sight), (⟨1, 2, 0, 0, ⟨⟨2, 0⟩, false⟩, ⟨3, 0, 0, ⟨⟨2, 0⟩, false⟩, ⟨⟨2, 0⟩, false⟩, 0, 2⟩⟩ : Sight), (⟨4, 4, 0, 7, ⟨⟨2, 0⟩, false⟩, mvZ⟩ : Sight), (⟨2, 4, 0, 0, ⟨⟨2, 0⟩, false⟩, ⟨3, 0, 0, ⟨⟨2, 0⟩, false⟩, ⟨⟨2, 0⟩, false⟩, 0, 2⟩⟩ : Sight)][3]? = some ⟨4, 4, 0, 7, ⟨⟨2, 0⟩, false⟩, mvZ⟩ from rfl)
  have H4 := Lib.hid (show [(⟨1, 0, 0, 0, poseO, ⟨1, 1, 2, poseO, ⟨⟨2, 0⟩, false⟩, 0, 2⟩⟩ : Sight), (⟨2, 2, 0, 0, ⟨⟨2, 0⟩, false⟩, ⟨1, 1, 2, poseO, ⟨⟨2, 0⟩, false⟩, 0, 2⟩⟩ : Sight), (⟨1, 2, 0, 0, ⟨⟨2, 0⟩, false⟩, ⟨3, 0, 0, ⟨⟨2, 0⟩, false⟩, ⟨⟨2, 0⟩, false⟩, 0, 2⟩⟩ : Sight), (⟨4, 4, 0, 7, ⟨⟨2, 0⟩, false⟩, mvZ⟩ : Sight), (⟨2, 4, 0, 0, ⟨⟨2, 0⟩, false⟩, ⟨3, 0, 0, ⟨⟨2, 0⟩, false⟩, ⟨⟨2, 0⟩, false⟩, 0, 2⟩⟩ : Sight)][4]? = some ⟨2, 4, 0, 0, ⟨⟨2, 0⟩, false⟩, ⟨3, 0, 0, ⟨⟨2, 0⟩, false⟩, ⟨⟨2, 0⟩, false⟩, 0, 2⟩⟩ from rfl)
  go_enter Tryz.func9, Tryz.ntmps9
  go_wp2_with (first
    | (go_at_call 14; go_must (refine w9_conf.mono ?_; rintro e w' ⟨ra, sa, ba, rfl, hT⟩; replace hK := hK.push hT; simp only [List.cons_append, List.nil_append] at hK; clear hT))
    | (go_at_call 16; go_must (refine (kW.out _ ra sa ba hK.own hK.own hK.own hK.lent).mono ?_; rintro e w' ⟨wp, rfl, hT⟩; replace hK := hK.push1 hT; replace hK := hK.sub (M' := [rWLD w9P wp aw0]) (.cons_cons _ (.cons _ (.cons _ (.cons _ .slnil)))); clear hT))
    | ((with_reducible refine wl_at (o := ⟨some 18, _, _, _, _, _⟩) ?_); go_must (refine wl_pure (v := .agg (Pose.cells ⟨⟨2, 0⟩, false⟩).toArray) rfl (fun W => by kernel_rfl) ?_))
    | ((with_reducible refine wl_at (o := ⟨some 3, .alloc _, _, _, _, _⟩) ?_)
       go_must (refine wl_allocK (z := .agg (poseZ3).toArray) (zs := poseZ3) hK rfl rfl (by kernel_rfl) rfl ?_; clear hK; intro w3 b3 hK))
    | ((with_reducible refine wl_at (o := ⟨none, .store 36 _ _, _, _, _, _⟩) ?_)
       go_must (refine wl_storeWK (vs := Pose.cells ⟨⟨2, 0⟩, false⟩) hK rfl rfl rfl rfl (aggS (by decide)) (pose_one _) (h := ?_); clear hK; intro w' hK; simp only [List.set_cons_zero, List.set_cons_succ] at hK))
    | ((with_reducible refine wl_at (o := ⟨some 22, _, _, _, _, _⟩) ?_); go_must (refine wl_pure (v := .agg (Tele.cells ⟨1, 0, 0, 1, ⟨1, 1, 2, poseO, ⟨⟨2, 0⟩, false⟩, 0, 2⟩, poseO, 0⟩).toArray) rfl (fun W => by kernel_rfl) ?_))
    | ((with_reducible refine wl_at (o := ⟨some 32, _, _, _, _, _⟩) ?_); go_must (refine wl_pure (v := .agg (Tele.cells ⟨1, 0, 0, 2, ⟨3, 0, 0, ⟨⟨2, 0⟩, false⟩, ⟨⟨2, 0⟩, false⟩, 0, 2⟩, poseO, 0⟩).toArray) rfl (fun W => by kernel_rfl) ?_))
    | (go_at_call 18; go_must (first
     | (with_reducible refine (calls_wx hK (by simp) (fun S hS => kH1.out wp _ S hS)).mono ?_; clear hK; rintro e w' ⟨ad1, cp1, rfl, hK⟩; replace hK := hK.sub (.cons_cons _ (.cons_cons _ (.cons _ (List.Sublist.refl _)))))
     | (with_reducible refine (calls_wx hK (by simp) (fun S hS => kH2.out wp _ S hS)).mono ?_; clear hK; rintro e w' ⟨ad4, cp4, rfl, hK⟩; replace hK := hK.sub (.cons_cons _ (.cons_cons _ (.cons _ (List.Sublist.refl _)))))))
    | (go_at_call 19; go_must (first
     | (with_reducible refine (calls_wx hK (by simp) (fun S hS => kT1.out wp _ S hS)).mono ?_; clear hK; rintro e w' ⟨ad2, cp2, rfl, hK⟩; replace hK := hK.sub (.cons_cons _ (.cons_cons _ (.cons _ (List.Sublist.refl _)))))
     | (with_reducible refine (calls_wx hK (by simp) (fun S hS => kT2.out wp _ S hS)).mono ?_; clear hK; rintro e w' ⟨ad3, cp3, rfl, hK⟩; replace hK := hK.sub (.cons_cons _ (.cons_cons _ (.cons _ (List.Sublist.refl _)))))
     | (with_reducible refine (calls_wx hK (by simp) (fun S hS => kT3.out wp _ S hS)).mono ?_; clear hK; rintro e w' ⟨ad5, cp5, rfl, hK⟩; replace hK := hK.sub (.cons_cons _ (.cons_cons _ (.cons _ (List.Sublist.refl _)))))
     | (with_reducible refine (calls_wx hK (by simp) (fun S hS => kT4.out wp _ S hS)).mono ?_; clear hK; rintro e w' ⟨ad6, cp6, rfl, hK⟩; replace hK := hK.sub (.cons_cons _ (.cons_cons _ (.cons_cons _ (List.Sublist.refl _)))))))
    | (go_at_call 11; go_must (refine (kSi.out wp _ hK.own).mono ?_; rintro e w' ⟨adS, cpS, rfl, hT⟩; replace hK := hK.push1 hT; clear hT))
    | (go_at_call 12; go_must (refine (hK.quiet (kNw.out wp _ hK.own)).mono ?_; clear hK; rintro e w' ⟨rfl, hK⟩))
    | ((with_reducible refine wl_at (o := ⟨some 45, _, _, _, _, _⟩) ?_); go_must (refine wl_ixK (i := 0) (u := (⟨3, 0, 0, 2, mvZ, poseO, 0⟩ : Tele)) hK rfl rfl rfl rfl teleTyA.und teleTyA.size (hu := H45) (h := ?_); intro b45 k45 hat45))
    | ((with_reducible refine wl_at (o := ⟨some 52, _, _, _, _, _⟩) ?_); go_must (refine wl_ixK (i := 0) (u := (⟨3, 0, 0, 2, mvZ, poseO, 0⟩ : Tele)) hK rfl rfl rfl rfl teleTyA.und teleTyA.size (hu := H45) (h := ?_); intro b52 k52 hat52))
    | ((with_reducible refine wl_at (o := ⟨some 64, _, _, _, _, _⟩) ?_); go_must (refine wl_ixK (i := 0) (u := (⟨1, 0, 0, 0, poseO, ⟨1, 1, 2, poseO, ⟨⟨2, 0⟩, false⟩, 0, 2⟩⟩ : Sight)) hK rfl rfl rfl rfl sightTy.und sightTy.size (hu := H0) (h := ?_); intro b64 k64 hat64))
    | ((with_reducible refine wl_at (o := ⟨some 71, _, _, _, _, _⟩) ?_); go_must (refine wl_ixK (i := 3) (u := (⟨4, 4, 0, 7, ⟨⟨2, 0⟩, false⟩, mvZ⟩ : Sight)) hK rfl rfl rfl rfl sightTy.und sightTy.size (hu := H3) (h := ?_); intro b71 k71 hat71))
    | ((with_reducible refine wl_at (o := ⟨some 78, _, _, _, _, _⟩) ?_); go_must (refine wl_ixK (i := 3) (u := (⟨4, 4, 0, 7, ⟨⟨2, 0⟩, false⟩, mvZ⟩ : Sight)) hK rfl rfl rfl rfl sightTy.und sightTy.size (hu := H3) (h := ?_); intro b78 k78 hat78))
    | ((with_reducible refine wl_at (o := ⟨some 85, _, _, _, _, _⟩) ?_); go_must (refine wl_ixK (i := 4) (u := (⟨2, 4, 0, 0, ⟨⟨2, 0⟩, false⟩, ⟨3, 0, 0, ⟨⟨2, 0⟩, false⟩, ⟨⟨2, 0⟩, false⟩, 0, 2⟩⟩ : Sight)) hK rfl rfl rfl rfl sightTy.und sightTy.size (hu := H4) (h := ?_); intro b85 k85 hat85))
    | go_big_skip
    | ((with_reducible refine wl_at (o := ⟨_, .load _ _, _, _, _, _⟩) ?_)
       first
         | refine wl_loadK hK rfl rfl rfl (scalT (by decide)) (h := ?_)
         | refine wl_loadSK hK rfl rfl rfl (aggT (by decide)) (h := ?_)
         | refine wl_loadA0 rfl rfl rfl (scalT (by decide)) (h := ?_)
         | refine wl_loadA rfl rfl rfl (scalT (by decide)) (h := ?_)
         | refine wl_loadSA rfl rfl rfl (aggT (by decide)) (h := ?_))
    | (with_reducible refine atEnd_mk (by kernel_rfl) ?_))
  go_ret
  exact ⟨rfl, hK.mod⟩
end Go.Proofs.YtngeeilkpnihmaaGreatDoor
