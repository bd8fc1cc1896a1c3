import Derived.Test.YthbcdckonaljiaaQk
import Derived.Test.YthbcdckonaljiaaQx
namespace Go.Proofs.Ythbcdckonaljiaa
open Go.RowKit Go.BigFrame

theorem meP_ne {f:Fn7} {r o:Nat} (ho:MeP f r (o:Int)):o ≠ r:=fun e=>by
  subst e
  rcases ho with ⟨q,i,_,_,h5⟩ | ⟨h5,_⟩ | ⟨h5,_⟩
  · exact h5.2.1 rfl
  · exact h5 rfl
  · exact h5 rfl
theorem clF_bd {f:Fn7} (hf:OkF f):∀ x ∈ clF f,0≤x∧x≤f.R+5:=fun x hx=>by
  obtain ⟨h1,h2,_⟩:=clF_fine hf
  obtain ⟨r,hr⟩:=List.mem_iff_getElem?.1 hx
  have hrR:r < f.R.toNat:=by rw [← h1]; exact (List.getElem?_eq_some_iff.1 hr).1
  obtain ⟨p,h4,_,h6⟩:=h2 r hrR
  have hxp:x=(p:Int):=Option.some.inj (hr.symm.trans h4)
  have:=h6 ((List.range f.R.toNat).erase r) (fun o ho=>by
    have hb:=ho.bd hf
    exact (List.mem_erase_of_ne (meP_ne ho)).2 (by rw [List.mem_range]; omega))
  rw [List.length_erase_of_mem (by rw [List.mem_range]; exact hrR),List.length_range] at this
  have hfr:frm f r≤6:=by unfold frm; split <;> omega
  omega
theorem clF_slots {f:Fn7} (hf:OkF f):0≤slF (clF f)∧slF (clF f)≤f.R :=
  slF_bd (clF f) f.R (by have:=hf.R; have:=hf.ps; omega) fun x hx=>(clF_bd hf x hx).2
set_option maxRecDepth 1000000 in
set_option maxHeartbeats 0 in
theorem CFine_not (f:Fn7) (hfw:¬ Fw14 f) (C:Option Addr) (cap:Nat) (hl9:f.code.length≤9223372036854775807) (w:World) (hC:RdI w C f.code) :
    Calls Try.prog 4 #[funcAgg f.nm f.ps f.R f.Fr C f.code.length cap] w fun e w'=>e = .returned (.bool true)∧Below w.heap.size w w':=by
  obtain ⟨N,hN⟩:∃ N,f.code.length=N:=⟨_,rfl⟩
  have hB:=Below.one w (funcObj f.nm f.ps f.R f.Fr C f.code.length cap)
  have bx:=heap_alloc_new w (funcObj f.nm f.ps f.R f.Fr C f.code.length cap)
  have hC1:=hC.below hB
  have hS:=(few14_any f C cap hl9 _ hC1).mono fun e w' h=>(⟨by rw [h.1.val,tb_false.2 hfw],h.2⟩:e = .returned (.bool false)∧Below (w.alloc (funcObj f.nm f.ps f.R f.Fr C f.code.length cap)).heap.size (w.alloc (funcObj f.nm f.ps f.R f.Fr C f.code.length cap)) w')
  rw [hN] at hB bx hC1 hS ⊢
  simp only [funcObj,funcAgg] at hB bx hC1 hS ⊢
  clear hN hC
  go_enter Try.func4,Try.ntmps4
  go_wp2_with fail
  refine hS.mono ?_
  rintro e w3 ⟨rfl,hb3⟩
  dsimp only
  have HB:=Lib.hid (hB.trans (hb3.mono hB.size))
  clear hS hB bx hC1 hb3
  go_wp2_with fail
  refine (awake14_any _).mono ?_
  rintro e w4 ⟨rfl,hb4⟩
  dsimp only
  have HB4:=Lib.hid (HB.out.trans (hb4.mono HB.out.size))
  clear hb4
  go_wp2
  go_returns
  exact ⟨rfl,HB4.out⟩
set_option maxRecDepth 1000000 in
set_option maxHeartbeats 0 in
theorem CFine_no (f:Fn7) (hfw:Fw14 f) (hf:¬ OkF f) (C:Option Addr) (cap:Nat) (hl9:f.code.length≤9223372036854775807) (w:World) (hC:RdI w C f.code) :
    Calls Try.prog 4 #[funcAgg f.nm f.ps f.R f.Fr C f.code.length cap] w fun e w'=>e = .returned (.bool true)∧Below w.heap.size w w':=by
  obtain ⟨N,hN⟩:∃ N,f.code.length=N:=⟨_,rfl⟩
  have hB:=Below.one w (funcObj f.nm f.ps f.R f.Fr C f.code.length cap)
  have bx:=heap_alloc_new w (funcObj f.nm f.ps f.R f.Fr C f.code.length cap)
  have hC1:=hC.below hB
  have hS:=(few14_any f C cap hl9 _ hC1).mono fun e w' h=>(⟨by rw [h.1.val,tb_true.2 hfw],h.2⟩:e = .returned (.bool true)∧Below (w.alloc (funcObj f.nm f.ps f.R f.Fr C f.code.length cap)).heap.size (w.alloc (funcObj f.nm f.ps f.R f.Fr C f.code.length cap)) w')
  have hOf:=fun W h=>Of_no f hf C cap W h
  have hRf:=fun W h=>(refRightFunc_any f C cap W h).mono fun e w' h'=>(⟨by rw [h'.1.val,tb_false.2 hf],h'.2⟩:e = .returned (.bool false)∧Below W.heap.size W w')
  have hFi:=fun W h=>Fine_no f hf (.slice none 0 0) C cap W h
  rw [hN] at hB bx hC1 hS hOf hRf hFi ⊢
  simp only [funcObj,funcAgg] at hB bx hC1 hS hOf hRf hFi ⊢
  obtain ⟨W,hW⟩:∃ W,w.alloc (.cells #[.string f.nm,.int .i64 f.ps,.int .i64 f.R,.int .i64 f.Fr,.slice C N cap] 26)=W:=⟨_,rfl⟩
  rw [hW] at hB bx hC1 hS
  have HB:=Lib.hid hB
  have HBX:=Lib.hid bx
  have hBl:=(Array.getElem?_eq_some_iff.1 bx).1
  have HC1:=Lib.hid hC1
  have HS:=Lib.hid hS
  have HW0:Hid (Below W.heap.size W W):=Lib.hid (Below.refl _ _)
  have k0:=cell_of_heap bx 0 _ rfl
  have k1:=cell_of_heap bx 1 _ rfl
  have k2:=cell_of_heap bx 2 _ rfl
  have k3:=cell_of_heap bx 3 _ rfl
  have k4:=cell_of_heap bx 4 _ rfl
  have HOF:=Lib.hid hOf
  have HRF:=Lib.hid hRf
  have HFI:=Lib.hid hFi
  clear hN hC hB bx hC1 hS hOf hRf hFi hf hfw
  go_enter Try.func4,Try.ntmps4
  try rw [hW]
  go_wp2_with fail
  refine (HS.out).mono ?_
  rintro e w3 ⟨rfl,hb3⟩
  dsimp only
  have HB3:=Lib.hid (HW0.out.trans (hb3.mono HW0.out.size))
  clear k0 k1 k2 k3 k4
  have hx:=(HB3.out.block _ hBl).trans HBX.out
  have k0:=cell_of_heap hx 0 _ rfl
  have k1:=cell_of_heap hx 1 _ rfl
  have k2:=cell_of_heap hx 2 _ rfl
  have k3:=cell_of_heap hx 3 _ rfl
  have k4:=cell_of_heap hx 4 _ rfl
  have HC3:=Lib.hid (HC1.out.below HB3.out)
  clear hx hb3
  clear hW
  go_wp2_with fail
  refine (HOF.out _ HC3.out).mono ?_
  rintro e w4 ⟨rfl,hb4⟩
  dsimp only
  have HB4:=Lib.hid (HB3.out.trans (hb4.mono HB3.out.size))
  clear k0 k1 k2 k3 k4
  have hx:=(HB4.out.block _ hBl).trans HBX.out
  have k0:=cell_of_heap hx 0 _ rfl
  have k1:=cell_of_heap hx 1 _ rfl
  have k2:=cell_of_heap hx 2 _ rfl
  have k3:=cell_of_heap hx 3 _ rfl
  have k4:=cell_of_heap hx 4 _ rfl
  have HC4:=Lib.hid (HC1.out.below HB4.out)
  clear hx hb4
  go_wp2_with fail
  refine (HRF.out _ HC4.out).mono ?_
  rintro e w5 ⟨rfl,hb5⟩
  dsimp only
  have HB5:=Lib.hid (HB4.out.trans (hb5.mono HB4.out.size))
  clear k0 k1 k2 k3 k4
  have hx:=(HB5.out.block _ hBl).trans HBX.out
  have k0:=cell_of_heap hx 0 _ rfl
  have k1:=cell_of_heap hx 1 _ rfl
  have k2:=cell_of_heap hx 2 _ rfl
  have k3:=cell_of_heap hx 3 _ rfl
  have k4:=cell_of_heap hx 4 _ rfl
  have HC5:=Lib.hid (HC1.out.below HB5.out)
  clear hx hb5
  go_wp2_with fail
  refine (HFI.out _ HC5.out).mono ?_
  rintro e w6 ⟨rfl,hb6⟩
  dsimp only
  have HB6:=Lib.hid (HB5.out.trans (hb6.mono HB5.out.size))
  clear k0 k1 k2 k3 k4
  have hx:=(HB6.out.block _ hBl).trans HBX.out
  have k0:=cell_of_heap hx 0 _ rfl
  have k1:=cell_of_heap hx 1 _ rfl
  have k2:=cell_of_heap hx 2 _ rfl
  have k3:=cell_of_heap hx 3 _ rfl
  have k4:=cell_of_heap hx 4 _ rfl
  have HC6:=Lib.hid (HC1.out.below HB6.out)
  clear hx hb6
  go_wp2_with fail
  refine (awake14_any _).mono ?_
  rintro e w7 ⟨rfl,hb7⟩
  dsimp only
  have HB7:=Lib.hid (HB6.out.trans (hb7.mono HB6.out.size))
  clear hb7
  go_wp2
  go_returns
  exact ⟨rfl,HB.out.trans (HB7.out.mono HB.out.size)⟩
open Go.RowKit Go.BigFrame

set_option maxRecDepth 1000000 in
set_option maxHeartbeats 0 in
theorem CFine_yes (f:Fn7) (hfw:Fw14 f) (hf:OkF f) (C:Option Addr) (cap:Nat) (hl9:f.code.length≤9223372036854775807) (w:World) (hC:RdI w C f.code) :
    Calls Try.prog 4 #[funcAgg f.nm f.ps f.R f.Fr C f.code.length cap] w fun e w'=>e = .returned (.bool true)∧Below w.heap.size w w':=by
  obtain ⟨N,hN⟩:∃ N,f.code.length=N:=⟨_,rfl⟩
  have hB:=Below.one w (funcObj f.nm f.ps f.R f.Fr C f.code.length cap)
  have bx:=heap_alloc_new w (funcObj f.nm f.ps f.R f.Fr C f.code.length cap)
  have hC1:=hC.below hB
  have hS:=(few14_any f C cap hl9 _ hC1).mono fun e w' h=>(⟨by rw [h.1.val,tb_true.2 hfw],h.2⟩:e = .returned (.bool true)∧Below (w.alloc (funcObj f.nm f.ps f.R f.Fr C f.code.length cap)).heap.size (w.alloc (funcObj f.nm f.ps f.R f.Fr C f.code.length cap)) w')
  obtain ⟨R,hRR⟩:∃ R,f.R.toNat=R:=⟨_,rfl⟩
  have hR0:f.R=(R:Int):=by have:=hf.R; have:=hf.ps; omega
  have hR2:R≤4096:=by have:=hf.R; omega
  have hOf:=fun W h=>Of_yes f hf (by have:=hfw.2; omega) C cap W h
  have hRf:=fun W h=>(refRightFunc_any f C cap W h).mono fun e w' h'=>(⟨by rw [h'.1.val,tb_true.2 hf],h'.2⟩:e = .returned (.bool true)∧Below W.heap.size W w')
  have hFi:=fun ob W h hP=>Fine_yes f hf (clF f) (clF_fn hf) ob f.R.toNat C cap W h hP
  have hWt:=fun r W h=>waits14_any f hf r C cap W h
  have hMt:=fun a b ha hb W h=>meets14_any f hf a b ha hb C cap W h
  have hfn:=clF_fn hf
  have hsl:=clF_slots hf
  have hbd:∀ x ∈ clF f,0≤x∧x≤9000:=fun x hx=>by have:=clF_bd hf x hx; omega
  unfold FnL at hfn
  rw [hRR] at hOf hFi hfn
  rw [hN] at hB bx hC1 hS hOf hRf hFi hWt hMt ⊢
  simp only [funcObj,funcAgg] at hB bx hC1 hS hOf hRf hFi hWt hMt ⊢
  rw [hR0] at hB bx hC1 hS hOf hRf hFi hWt hMt hsl ⊢
  have hSl:=fun ob W hP=>Slots_any (clF f) ob R R hfn.1 (by omega) hbd W hP
  obtain ⟨sl,hsl0⟩:∃ sl,slF (clF f)=sl:=⟨_,rfl⟩
  rw [hsl0] at hsl hSl
  obtain ⟨W,hW⟩:∃ W,w.alloc (.cells #[.string f.nm,.int .i64 f.ps,.int .i64 (R:Int),.int .i64 f.Fr,.slice C N cap] 26)=W:=⟨_,rfl⟩
  rw [hW] at hB bx hC1 hS
  have HB:=Lib.hid hB
  have HBX:=Lib.hid bx
  have hBl:=(Array.getElem?_eq_some_iff.1 bx).1
  have HC1:=Lib.hid hC1
  have HS:=Lib.hid hS
  have HW0:Hid (Below W.heap.size W W):=Lib.hid (Below.refl _ _)
  have k0:=cell_of_heap bx 0 _ rfl
  have k1:=cell_of_heap bx 1 _ rfl
  have k2:=cell_of_heap bx 2 _ rfl
  have k3:=cell_of_heap bx 3 _ rfl
  have k4:=cell_of_heap bx 4 _ rfl
  have HOF:=Lib.hid hOf
  have HRF:=Lib.hid hRf
  have HFI:=Lib.hid hFi
  have HWT:=Lib.hid hWt
  have HMT:=Lib.hid hMt
  have HSL:=Lib.hid hSl
  have HFN:=Lib.hid hfn
  have hsl2:=hsl.2
  clear hN hC hB bx hC1 hS hOf hRf hFi hWt hMt hSl hfn hbd hsl hsl0 hR0 hRR hf hfw
  go_enter Try.func4,Try.ntmps4
  try rw [hW]
  go_wp2_with fail
  refine (HS.out).mono ?_
  rintro e w3 ⟨rfl,hb3⟩
  dsimp only
  have HB3:=Lib.hid (HW0.out.trans (hb3.mono HW0.out.size))
  clear k0 k1 k2 k3 k4
  have hx:=(HB3.out.block _ hBl).trans HBX.out
  have k0:=cell_of_heap hx 0 _ rfl
  have k1:=cell_of_heap hx 1 _ rfl
  have k2:=cell_of_heap hx 2 _ rfl
  have k3:=cell_of_heap hx 3 _ rfl
  have k4:=cell_of_heap hx 4 _ rfl
  have HC3:=Lib.hid (HC1.out.below HB3.out)
  clear hx hb3
  clear hW
  go_wp2_with fail
  refine (HOF.out _ HC3.out).mono ?_
  rintro e w4 ⟨⟨ob,rfl,_,hP⟩,hb4⟩
  dsimp only
  have HB4:=Lib.hid (HB3.out.trans (hb4.mono HB3.out.size))
  clear k0 k1 k2 k3 k4
  have hx:=(HB4.out.block _ hBl).trans HBX.out
  have k0:=cell_of_heap hx 0 _ rfl
  have k1:=cell_of_heap hx 1 _ rfl
  have k2:=cell_of_heap hx 2 _ rfl
  have k3:=cell_of_heap hx 3 _ rfl
  have k4:=cell_of_heap hx 4 _ rfl
  have HC4:=Lib.hid (HC1.out.below HB4.out)
  clear hx hb4
  have HP4:=Lib.hid hP
  clear hP
  go_wp2_with fail
  refine (HRF.out _ HC4.out).mono ?_
  rintro e w5 ⟨rfl,hb5⟩
  dsimp only
  have HB5:=Lib.hid (HB4.out.trans (hb5.mono HB4.out.size))
  clear k0 k1 k2 k3 k4
  have hx:=(HB5.out.block _ hBl).trans HBX.out
  have k0:=cell_of_heap hx 0 _ rfl
  have k1:=cell_of_heap hx 1 _ rfl
  have k2:=cell_of_heap hx 2 _ rfl
  have k3:=cell_of_heap hx 3 _ rfl
  have k4:=cell_of_heap hx 4 _ rfl
  have HC5:=Lib.hid (HC1.out.below HB5.out)
  have HP5:=Lib.hid (Pre.later HP4.out hb5)
  clear hx hb5
  go_wp2_with fail
  refine (HFI.out _ _ HC5.out HP5.out).mono ?_
  rintro e w6 ⟨rfl,hb6⟩
  dsimp only
  have HB6:=Lib.hid (HB5.out.trans (hb6.mono HB5.out.size))
  clear k0 k1 k2 k3 k4
  have hx:=(HB6.out.block _ hBl).trans HBX.out
  have k0:=cell_of_heap hx 0 _ rfl
  have k1:=cell_of_heap hx 1 _ rfl
  have k2:=cell_of_heap hx 2 _ rfl
  have k3:=cell_of_heap hx 3 _ rfl
  have k4:=cell_of_heap hx 4 _ rfl
  have HC6:=Lib.hid (HC1.out.below HB6.out)
  have HP6:=Lib.hid (Pre.later HP5.out hb6)
  have HX6:=Lib.hid hx
  have hBl6:=(Array.getElem?_eq_some_iff.1 hx).1
  clear hx hb6
  go_wp2_with fail
  clear k0 k1 k2 k3 k4
  go_loopw [40] (fun ix wx=>∃ k:Nat,k≤R∧ix = .int .i64 k∧Below w6.heap.size w6 wx) (fun ix _=>R - (intOf ix).toNat)
  case atStart=>exact ⟨0,by omega,rfl,Below.refl _ _⟩
  case round =>
    obtain ⟨r,hk,rfl,hb⟩:=hrel
    by_cases hltR:r < R
    · have hki:(r:Int) < R:=by omega
      obtain ⟨p,hp,hpf⟩:=HFN.out.2.1 r hltR
      have c0:=PC.cell (Pre.later HP6.out hb) hp
      have hx:=(hb.block _ hBl6).trans HX6.out
      have k0:=cell_of_heap hx 0 _ rfl
      have k1:=cell_of_heap hx 1 _ rfl
      have k2:=cell_of_heap hx 2 _ rfl
      have k3:=cell_of_heap hx 3 _ rfl
      have k4:=cell_of_heap hx 4 _ rfl
      obtain ⟨bw,hbw⟩:∃ bw,tb (WaP f (r:Int))=bw:=⟨_,rfl⟩
      have hp0:¬ (p:Int) < 0:=by omega
      have go2:bw=true→¬ (p:Int) < 6:=fun e=>by
        have:=tb_true.1 (hbw.trans e)
        unfold frm at hpf
        rw [if_pos this] at hpf
        omega
      have HWB:=Lib.hid (HWT.out (r:Int) wr (HC6.out.below hb))
      rw [hbw] at HWB
      have HLT:=Lib.hid hltR
      clear hk hpf hbw hx
      cases bw
      all_goals
        try have hp6:=go2 rfl
        clear go2
        go_wp2_with fail
        refine HWB.out.mono ?_
        rintro e w7 ⟨rfl,hb7⟩
        dsimp only
        clear k0 k1 k2 k3 k4 c0
        have HB7:=Lib.hid (hb.trans (hb7.mono hb.size))
        have hx7:=(HB7.out.block _ hBl6).trans HX6.out
        have k0:=cell_of_heap hx7 0 _ rfl
        have k1:=cell_of_heap hx7 1 _ rfl
        have k2:=cell_of_heap hx7 2 _ rfl
        have k3:=cell_of_heap hx7 3 _ rfl
        have k4:=cell_of_heap hx7 4 _ rfl
        have c0:=PC.cell (Pre.later HP6.out HB7.out) hp
        clear hx7 hb7
        go_wp2_with fail
        clear k0 k1 k2 k3 k4 c0
        go_loopw [61] (fun ix wx=>∃ j:Nat,j≤r∧ix = .int .i64 j∧Below w6.heap.size w6 wx) (fun ix _=>r - (intOf ix).toNat)
        case atStart=>exact ⟨0,by omega,rfl,HB7.out⟩
        case round =>
          obtain ⟨j,hj,rfl,hbj⟩:=hrel
          by_cases hlt2:j < r
          · have hji:(j:Int) < r:=by omega
            have hjR:(j:Int) < R:=by omega
            obtain ⟨q,hq,_⟩:=HFN.out.2.1 j (by omega)
            have HBJ:=Lib.hid hbj
            have c0:=PC.cell (Pre.later HP6.out hbj) hp
            have c1:=PC.cell (Pre.later HP6.out hbj) hq
            have hxj:=(hbj.block _ hBl6).trans HX6.out
            have k0:=cell_of_heap hxj 0 _ rfl
            have k1:=cell_of_heap hxj 1 _ rfl
            have k2:=cell_of_heap hxj 2 _ rfl
            have k3:=cell_of_heap hxj 3 _ rfl
            have k4:=cell_of_heap hxj 4 _ rfl
            obtain ⟨mb,hmb⟩:∃ mb,tb (MeP f r (j:Int))=mb:=⟨_,rfl⟩
            have HM:=Lib.hid (fun W h=>HMT.out r j (by omega) (by omega) W h)
            rw [hmb] at HM
            have hne:mb=true→¬ (p:Int)=(q:Int):=fun e he=>HFN.out.2.2 r j hltR (by omega) (tb_true.1 (hmb.trans e)) (by rw [hp,hq,he])
            have HLT2:=Lib.hid hlt2
            obtain ⟨pi,hpi⟩:∃ pi:Int,(p:Int)=pi:=⟨_,rfl⟩
            obtain ⟨qi,hqi⟩:∃ qi:Int,(q:Int)=qi:=⟨_,rfl⟩
            rw [hpi] at c0 hne
            rw [hqi] at c1 hne
            clear hj hlt2 hbj hxj hmb hq hpi hqi
            go_upto_region 16 with fail
            have s0:=fun s:Later wr=>Later.cell c0 s
            have s1:=fun s:Later wr=>Later.cell c1 s
            have t0:=fun s:Later wr=>Later.cell k0 s
            have t1:=fun s:Later wr=>Later.cell k1 s
            have t2:=fun s:Later wr=>Later.cell k2 s
            have t3:=fun s:Later wr=>Later.cell k3 s
            have t4:=fun s:Later wr=>Later.cell k4 s
            clear c0 c1 k0 k1 k2 k3 k4
            cases mb
            all_goals
              try (have hn2:=hne rfl; have hn1:(pi == qi)=false:=(by rw [beq_eq_false_iff_ne]; exact hn2))
              clear hne
              refine wp_region_later (by kernel_rfl) (by kernel_rfl) ?_
              iterate 15 (go_big_quiet_step (first | (go_at_call 17; exact Calls.later (HM.out _ (HC6.out.below (HBJ.out.trans ((Later.h _).mono HBJ.out.size)))))))
              refine wpQuiet_nil ?_
              rintro w9 ⟨s',rfl⟩
              have HB9:=Lib.hid (HBJ.out.trans (s'.h.mono HBJ.out.size))
              go_wp2
              have:=HLT2.out
              exact ⟨⟨j+1,by omega,by go_num,HB9.out⟩,by simp [intOf]; omega⟩
          · obtain rfl:j=r:=by omega
            have hji:¬ (j:Int) < (j:Int):=by omega
            have HBJ:=Lib.hid hbj
            clear hlt2 hj hbj
            go_wp2
            exact ⟨⟨j+1,by omega,by go_num,HBJ.out⟩,by simp [intOf]; omega⟩
    · obtain rfl:r=R:=by omega
      have hki:¬ (r:Int) < (r:Int):=by omega
      have HBJ:=Lib.hid hb
      have HPE:=Lib.hid (Pre.later HP6.out hb)
      have hx:=(hb.block _ hBl6).trans HX6.out
      have k0:=cell_of_heap hx 0 _ rfl
      have k1:=cell_of_heap hx 1 _ rfl
      have k2:=cell_of_heap hx 2 _ rfl
      have k3:=cell_of_heap hx 3 _ rfl
      have k4:=cell_of_heap hx 4 _ rfl
      clear hltR hk hb hx
      go_upto_region 20 with fail
      have t2:=fun s:Later wr=>Later.cell k2 s
      clear k0 k1 k2 k3 k4
      have hle1:decide (sl≤(r:Int))=true:=by simpa using hsl2
      refine wp_region_later (by kernel_rfl) (by kernel_rfl) ?_
      iterate 9 (go_big_quiet_step (first | (go_at_call 18; exact Calls.later ((HSL.out _ _ (Pre.later HPE.out (Later.h _))).mono fun e w' h=>⟨h.1,by rw [h.2]; exact Below.refl _ _⟩)) | (go_at_call 12; exact Calls.later (awake14_any _))))
      refine wpQuiet_nil ?_
      rintro w9 ⟨s',rfl⟩
      have HB9:=Lib.hid (HB.out.trans ((HB6.out.trans ((HBJ.out.trans (s'.h.mono HBJ.out.size)).mono HB6.out.size)).mono HB.out.size))
      go_wp2
      go_returns
      exact ⟨rfl,HB9.out⟩
theorem ColorFine_any (f:Fn7) (C:Option Addr) (cap:Nat) (hl9:f.code.length≤9223372036854775807) (w:World) (hC:RdI w C f.code) :
    Calls Try.prog 4 #[funcAgg f.nm f.ps f.R f.Fr C f.code.length cap] w fun e w'=>e = .returned (.bool true)∧Below w.heap.size w w':=by
  by_cases hfw:Fw14 f
  · by_cases hf:OkF f
    · exact CFine_yes f hfw hf C cap hl9 w hC
    · exact CFine_no f hfw hf C cap hl9 w hC
  · exact CFine_not f hfw C cap hl9 w hC
end Go.Proofs.Ythbcdckonaljiaa
