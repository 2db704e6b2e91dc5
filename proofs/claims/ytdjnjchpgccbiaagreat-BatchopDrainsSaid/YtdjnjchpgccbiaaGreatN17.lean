/- law14: two batches that take all: the law. -/
import Derived.Test.YtdjnjchpgccbiaaGreatNE
import Derived.Test.YtdjnjchpgccbiaaGreatHB
namespace Go.Proofs.YtdjnjchpgccbiaaGreat.Abs
open Go.Proofs
set_option maxRecDepth 10000
set_option linter.unusedSimpArgs false
set_option linter.unusedVariables false
def liveE (l : List Ent) : List Ent:=l.filter fun e=>!e.dead
theorem batchL_all {bound max : Int} : ∀ (l : List Ent) (out : List Evt),(∀ e ∈ l,e.time < bound) → ((out.length + l.length : Nat) : Int) ≤ max → (batchL bound max l out).1 = [] ∧ (batchL bound max l out).2.length = out.length + (liveE l).length
 | [],out,_,_=>⟨rfl,rfl⟩
 | e :: l,out,h,hm=>by
  have hm : ((out.length + (l.length + 1) : Nat) : Int) ≤ max:=hm
  unfold batchL
  rw [if_pos ⟨h e List.mem_cons_self,by omega⟩]
  cases hd : e.dead with
  | true=>
   rw [if_pos rfl]
   obtain ⟨a,b⟩:=batchL_all l out (fun x hx=>h x (List.mem_cons_of_mem _ hx)) (show ((out.length + l.length : Nat) : Int) ≤ max by omega)
   refine ⟨a,?_⟩
   rw [b]
   unfold liveE
   rw [List.filter_cons_of_neg (by rw [hd];simp)]
  | false=>
   rw [if_neg Bool.false_ne_true]
   obtain ⟨a,b⟩:=batchL_all l (out ++ [⟨e.time,e.handle⟩]) (fun x hx=>h x (List.mem_cons_of_mem _ hx)) (show (((out ++ [(⟨e.time,e.handle⟩ : Evt)]).length + l.length : Nat) : Int) ≤ max by rw [List.length_append,List.length_singleton];omega)
   refine ⟨a,?_⟩
   rw [b,List.length_append,List.length_singleton]
   unfold liveE
   rw [List.filter_cons_of_pos (by rw [hd];rfl),List.length_cons]
   omega
def clD : Cl:=⟨3,0,0,64,1152921504606846977⟩
theorem drain1 {n K0 : Nat} {s : Sto} {S S1 : List Item} {t m : Nat} (hr : Rdy n K0 s S) (h : BAlone n K0 t s S clD m S1) :
 S1 = [] ∧ (runB (.new t clD) s m).1.rv = true ∧ (runB (.new t clD) s m).1.ev.length = (liveE ((sls S).map s.ent)).length:=by
 have hS : S.length ≤ 12:=by have:=hr.ok.toSOk.len;have:=hr.ok.n12;omega
 have h1:=h.d
 unfold doM at h1
 rw [if_neg (by decide),if_neg (by decide),if_pos (show clD.cal.kind = 3 from rfl)] at h1
 unfold batchM at h1
 rw [if_neg (by decide)] at h1
 have hb : ∀ e ∈ (modS n s S).ents,e.time < clD.cal.bound:=fun e he=>by
  obtain ⟨i,hi,rfl⟩:=List.mem_map.1 he
  obtain ⟨x,hx,rfl⟩:=List.mem_map.1 hi
  obtain ⟨k,q1,q2,q3,q4⟩:=hr.ok.itm x hx
  have e1 : x.slot.toNat = k:=by rw [q2];rfl
  rw [e1]
  have:=(hr.ok.tm k q1 q3).1.2
  show (s.slot k).time < 1152921504606846977
  omega
 obtain ⟨a,b⟩:=batchL_all (bound:=clD.cal.bound) (max:=clD.cal.max) (modS n s S).ents [] hb (by show ((0 + ((sls S).map s.ent).length : Nat) : Int) ≤ 64;simp [sls];omega)
 have hm:=congrArg Mod.ents (congrArg Prod.fst h1)
 have hres:=congrArg Prod.snd h1
 dsimp only at hm hres
 rw [a] at hm
 have hS1 : S1 = []:=by
  have h2 : ((sls S1).map (runB (.new t clD) s m).2.ent).length = 0:=by
   have : (modS n (runB (.new t clD) s m).2 S1).ents.length = 0:=by rw [← hm];rfl
   exact this
  rw [List.length_map] at h2
  unfold sls at h2
  rw [List.length_map] at h2
  exact List.length_eq_zero_iff.1 h2
 have he : (runB (.new t clD) s m).1.e = 0:=(congrArg Res.err hres).symm
 have hl:=congrArg (fun r=>r.evs.length) hres
 dsimp only at hl
 have hdn : (runB (.new t clD) s m).1.done = true:=by
  have h3:=h.m1.1
  have h4:=h.dn
  exact h4
 unfold BOp.done at hdn
 rw [he] at hdn
 have hrv : (runB (.new t clD) s m).1.rv = true:=by simpa using hdn
 refine ⟨hS1,hrv,?_⟩
 have h5 : (Kop.bat (runB (.new t clD) s m).1).res.evs.length = (runB (.new t clD) s m).1.ev.length:=by
  show (if (runB (.new t clD) s m).1.rv = true then evts (runB (.new t clD) s m).1.ev else []).length = _
  rw [if_pos hrv]
  unfold evts
  rw [List.length_map]
 rw [← h5,← hl,b]
 show 0 + _ = _
 rw [Nat.zero_add];rfl
theorem liveE_take {l : List Ent} {k : Nat} {e : Ent} (h : l[k]? = some e) : (liveE (l.take (k + 1))).length = (liveE (l.take k)).length + if e.dead = true then 0 else 1:=by
 rw [List.take_add_one,h]
 unfold liveE
 rw [List.filter_append,List.length_append]
 cases hd : e.dead <;> simp [hd]
set_option maxHeartbeats 16000000 in
theorem bDrainsG (c : Int) (l : List OpS) {n : Nat} (hn : 1 ≤ n ∧ n ≤ 12) (s0 : Sto) (S : List Item) (hsz : PSpec Tryz.prog 14 [.c (.int .u8 c)] (V.int n)) (hhd : PSpec Tryz.prog 25 [] (V.bool true))
 (hp : LSpec Tryz.prog 13 [V.int n,opsSV l] [] 0 (.tup [.p 0 10 0 0,.p 5 10 0 0]) (stoB s0 2 ++ rstoAt s0 5 7) 10) {K0 K1 : Nat} (hr : Rdy n K0 s0 S) (P P' : Nat → BOp) (Q Q' : Nat → Sto) (m m' : Nat) (hm : 1 ≤ m ∧ m ≤ 1000) (hm' : 1 ≤ m' ∧ m' ≤ 1000)
 (hP0 : P 0 = .new 0 ⟨3,0,0,64,1152921504606846977⟩) (hQ0 : Q 0 = s0) (hP0' : P' 0 = .new 0 ⟨3,0,0,64,1152921504606846977⟩) (hQ0' : Q' 0 = Q m)
 (hst : ∀ k,k < m → BStepL (P k) (Q k) (decide (k + 1 = m)) (P (k + 1)) (Q (k + 1))) (hst' : ∀ k,k < m' → BStepL (P' k) (Q' k) (decide (k + 1 = m')) (P' (k + 1)) (Q' (k + 1)))
 (hrv : (P m).rv = true) (hev : (P m).ev.length = (liveE ((sls S).map s0.ent)).length) (hrv' : (P' m').rv = true) (hev' : (P' m').ev.length = 0) (hy : Rdy n K1 (Q' m') []) :
 PSpec Tryz.prog 5 [.c (.int .u8 c),opsSV l] (V.bool true):=by
 have hSl : S.length ≤ 12:=by have:=hr.ok.toSOk.len;omega
 have run1:=bRunC P Q m 1000 (by omega) hst
 have run2:=bRunC P' Q' m' 1000 (by omega) hst'
 rw [hP0,hQ0] at run1
 rw [hP0',hQ0'] at run2
 have hpl:=hy.ok.toSOk.pics_len
 have hil:=hy.ok.toSOk.items_len
 have e1 : bRes (P m) 2 = .agg [V.int (P m).e,V.int 0,V.bool false,.ac 2 2 (liveE ((sls S).map s0.ent)).length]:=by unfold bRes;rw [hrv,← hev];rfl
 have e2 : bRes (P' m') 2 = .agg [V.int (P' m').e,V.int 0,V.bool false,.ac 2 2 0]:=by unfold bRes;rw [hrv',← hev'];rfl
 have res1:=bResultC (P m) (Q' m')
 have res2:=bResultC (P' m') (Q' m')
 rw [e1] at res1
 rw [e2] at res2
 refine pspec tab_ok mix Tryz.func5 (by kernel_rfl) rfl rfl ?_
 (refine go ?_; try exact True.intro)
 refine callB hhd (go ?_)
 refine callB hsz (go ?_)
 refine callL hp [] [] rfl (go ?_)
 refine callL (modelC hr) [some 512,some 513,some 514,some 515,some 516] [] rfl (go ?_)
 have hEl : ((modS n s0 S).ents.map Ent.row).length = S.length:=by show (((sls S).map s0.ent).map Ent.row).length = _;simp [sls]
 have hEl2 : (modS n s0 S).ents.length = S.length:=by show ((sls S).map s0.ent).length = _;simp [sls]
 generalize hE : (modS n s0 S).ents = E at *
 refine loopB tab_ok mix [5,7,10] [512,513,514,515,516,1216] (fun k : Nat=>[(11,V.int k),(9,V.int (liveE (E.take k)).length)]) (fun k=>[]) (fun k=>k ≤ S.length) (fun k=>S.length - k) [] 0 rfl (by omega) (by (refine go ?_; try exact True.intro)) ?_
 intro k hk
 (refine go ?_; try exact True.intro)
 rw [hEl]
 have hle : (liveE (E.take k)).length ≤ k:=Nat.le_trans (List.length_filter_le ..) (by rw [List.length_take];omega)
 by_cases hz : k < S.length
 · obtain ⟨x,hx⟩:=get_lt (show k < E.length by omega)
   have htk:=liveE_take hx
   rw [decide_eq_true (show (k : Int) < S.length by omega)]
   (refine go ?_; try exact True.intro)
   refine idxB (f:=Ent.row) hx (go ?_)
   cases hd : x.dead with
   | true=>
    rw [hd,if_pos rfl] at htk
    (refine go ?_; try exact True.intro)
    refine .mk [] (k + 1) (by omega) (by omega) (go ?_);try exact True.intro
   | false=>
    rw [hd,if_neg Bool.false_ne_true] at htk
    (refine go ?_; try exact True.intro)
    refine .mk [] (k + 1) (by omega) (by omega) (go ?_);try exact True.intro
 obtain rfl : k = S.length:=by omega
 rw [decide_eq_false (show ¬ (S.length : Int) < S.length by omega)]
 rw [List.take_of_length_le (show E.length ≤ S.length by omega)]
 (refine go ?_; try exact True.intro)
 refine callL (bNewC s0 0 ⟨3,0,0,64,1152921504606846977⟩) [some 512,some 513,some 514,some 515,some 516] [] rfl (go ?_)
 refine callL (bNewC s0 0 ⟨3,0,0,64,1152921504606846977⟩) [some 512,some 513,some 514,some 515,some 516] [] rfl (go ?_)
 refine callO run1 [some 1856,some 1857,some 1858,some 512,some 513,some 514,some 515,some 516] [] _ _ _ (bB0_at (ν:=fun x=>1856 + x) (.new 0 ⟨3,0,0,64,1152921504606846977⟩) s0 (by decide) rfl rfl rfl rfl rfl) (bB1_at (ν:=fun x=>match x with | 0=>1856 | x=>2751 + x) (P m) (Q m) rfl (by decide) rfl rfl rfl rfl rfl) rfl rfl (go ?_)
 rw [decide_eq_false (show ¬ (m : Int) = 0 by omega)]
 (refine go ?_; try exact True.intro)
 refine callO run2 [some 2112,some 2113,some 2114,some 512,some 513,some 2754,some 515,some 516] [] _ _ _ (bB0_at (ν:=fun x=>2112 + x) (.new 0 ⟨3,0,0,64,1152921504606846977⟩) (Q m) (by decide) rfl rfl rfl rfl rfl) (bB1_at (ν:=fun x=>match x with | 0=>2112 | x=>3071 + x) (P' m') (Q' m') rfl (by decide) rfl rfl rfl rfl rfl) rfl rfl (go ?_)
 rw [decide_eq_false (show ¬ (m' : Int) = 0 by omega)]
 (refine go ?_; try exact True.intro)
 refine callO res1 [some 1856,some 2752,some 2753,some 512,some 513,some 3074,some 515,some 516] [] _ _ _ (bB0_at (ν:=fun x=>match x with | 0=>1856 | x=>2751 + x) (P m) (Q' m') (by decide) rfl rfl rfl rfl rfl) (bB0_at (ν:=fun x=>match x with | 0=>1856 | x=>2751 + x) (P m) (Q' m') (by decide) rfl rfl rfl rfl rfl) rfl rfl (go ?_)
 rw [decide_eq_true (show ((liveE ((sls S).map s0.ent)).length : Int) = (liveE E).length by rw [← hE];rfl)]
 (refine go ?_; try exact True.intro)
 refine callO res2 [some 2112,some 3072,some 3073,some 512,some 513,some 3074,some 515,some 516] [] _ _ _ (bB0_at (ν:=fun x=>match x with | 0=>2112 | x=>3071 + x) (P' m') (Q' m') (by decide) rfl rfl rfl rfl rfl) (bB0_at (ν:=fun x=>match x with | 0=>2112 | x=>3071 + x) (P' m') (Q' m') (by decide) rfl rfl rfl rfl rfl) rfl rfl (go ?_)
 refine callL (itemsH hy.ok) [some 512,some 513,some 3074,some 515,some 516] [] rfl (go ?_)
 refine callL (arenaH hy.ok) [some 512,some 513,some 3074,some 515,some 516] [] rfl (go ?_)
 refine callB (liveC (Q' m').pics (Q' m').idle (Q' m').next (by omega)) ?_
 rw [← hil]
 (refine go ?_; try exact True.intro)
 exact .same rfl
theorem batchopDrains (c : Int) (hc : 0 ≤ c ∧ c ≤ 255) (l : List OpS) (hl : ∀ o ∈ l,o.Ok) : PSpec Tryz.prog 5 [.c (.int .u8 c),opsSV l] (V.bool true):=by
 obtain ⟨_,hn⟩:=capN_ok hc.1
 have hr:=prep_ready hn hl
 have hsz:=sizeC c hc
 have hp:=preparedC hn l hl
 generalize prepS (capN c) l = s at *
 generalize (runF (capN c) l (min l.length 60)).2 = S at *
 generalize capN c = n at *
 have hr:=Rdy.of hr
 obtain ⟨m,S1,h⟩:=bat_alone hr 0 clD rfl (by decide)
 obtain ⟨rfl,d2,d3⟩:=drain1 hr h
 have hS : S.length ≤ 12:=by have:=hr.ok.toSOk.len;omega
 have hm:=h.m1
 obtain ⟨m',S2,h'⟩:=bat_alone h.y 0 clD rfl (by omega)
 obtain ⟨rfl,e2,e3⟩:=drain1 h.y h'
 have hm':=h'.m1
 have e3 : (runB (.new ((0 : Nat) : Int) clD) (runB (.new ((0 : Nat) : Int) clD) s m).2 m').1.ev.length = 0:=e3
 exact bDrainsG c l hn s S hsz head14C hp hr (fun k=>(runB (.new 0 clD) s k).1) (fun k=>(runB (.new 0 clD) (runB (.new 0 clD) s m).2 k).1) (fun k=>(runB (.new 0 clD) s k).2) (fun k=>(runB (.new 0 clD) (runB (.new 0 clD) s m).2 k).2) m m' (by omega) ⟨hm'.1,by have:=hm'.2;simp at this;omega⟩ rfl rfl rfl rfl h.st h'.st d2 d3 e2 e3 h'.y
theorem specBatchopDrains (rows : List (List D)) (h : AllR (ShapeD tab 5) [5,22] rows) : PSpec Tryz.prog 5 (List.zipWith (argV tab) [5,22] rows) (V.bool true):=by
 obtain ⟨_,_,rfl,h1,h⟩:=h.cons
 obtain ⟨_,_,rfl,h2,h⟩:=h.cons
 cases h.nil
 obtain ⟨c,rfl,hc⟩:=u8OfG h1
 obtain ⟨l,hl,rfl⟩:=opsSOf h2
 exact batchopDrains c hc l hl
end Go.Proofs.YtdjnjchpgccbiaaGreat.Abs
