import Derived.Test.YtkcclefonmnpnaaZg3
import Derived.Test.YtkcclefonmnpnaaXe
namespace Go.Proofs.Ytkcclefonmnpnaa
open Go.ChangeShapes Go.WideShapes Go.ChangeAt Go.RowKit
theorem oiG:Try.prog.underlying 81=some (.struct (Try.prog.fieldsOf 81)):=by kernel_rfl
theorem oiU:Try.prog.underlying 43=some (.struct (Try.prog.fieldsOf 43)):=by kernel_rfl
theorem oib:Try.prog.underlying 5=some (.int .u8):=by kernel_rfl
theorem ocG:Try.prog.cellsOf 81=4:=by kernel_rfl
theorem ocFs:Try.prog.cellsOf 40=1:=by kernel_rfl
theorem ocGs:Try.prog.cellsOf 41=1:=by kernel_rfl
theorem ocU:Try.prog.cellsOf 43=3:=by kernel_rfl
theorem ocb:Try.prog.cellsOf 5=1:=by kernel_rfl
theorem ofG:(Try.prog.fieldsOf 81).toList.map (fun f=>(f.type,f.offset))=[(9,0),(3,1),(3,2),(3,3)]:=by kernel_rfl
theorem ofU:(Try.prog.fieldsOf 43).toList.map (fun f=>(f.type,f.offset))=[(40,0),(41,1),(3,2)]:=by kernel_rfl
section
variable {H:Type} {enc:TypeId × Value→H} {w:World} {base:Nat} {sp:Nat→Bool} {held:Bool} {fuel:Nat} {cs:List Value} {x:DataW H × List MemPlace}
set_option maxRecDepth 100000 in
theorem trod_gl (h:DataW.trod enc Try.prog w base sp held fuel 81 cs=some x):∃ g:Gl,cs=glL g:=by
  obtain ⟨xs,m,_,_,hl,hxl,hi⟩:=DataW.trod_struct oiG h
  have hsz:(Try.prog.fieldsOf 81).size=4:=by simpa using congrArg List.length ofG
  rw [ocG] at hl
  rw [hsz] at hxl
  obtain ⟨f0,a0,b0,c0⟩:=field_at ofG 0 _ rfl
  obtain ⟨f1,a1,b1,c1⟩:=field_at ofG 1 _ rfl
  obtain ⟨f2,a2,b2,c2⟩:=field_at ofG 2 _ rfl
  obtain ⟨f3,a3,b3,c3⟩:=field_at ofG 3 _ rfl
  have h0:=hi 0 f0 a0
  have h1:=hi 1 f1 a1
  have h2:=hi 2 f2 a2
  have h3:=hi 3 f3 a3
  rw [b0,c0,ocs,List.getElem?_eq_getElem (by omega)] at h0
  rw [b1,c1,oc3,List.getElem?_eq_getElem (by omega)] at h1
  rw [b2,c2,oc3,List.getElem?_eq_getElem (by omega)] at h2
  rw [b3,c3,oc3,List.getElem?_eq_getElem (by omega)] at h3
  obtain ⟨s,e0,_⟩:=DataW.trod_string ois h0
  obtain ⟨n1,e1,_⟩:=DataW.trod_int oi3 h1
  obtain ⟨n2,e2,_⟩:=DataW.trod_int oi3 h2
  obtain ⟨n3,e3,_⟩:=DataW.trod_int oi3 h3
  match cs,hl with
  | [a,b,c,d],_ =>
    simp at e0 e1 e2 e3
    exact ⟨⟨s,n1,n2,n3⟩,by simp [e0,e1,e2,e3]⟩
set_option maxRecDepth 100000 in
theorem trod_fn (h:DataW.trod enc Try.prog w 0 sp held fuel 24 cs=some x)(hsp:∀ b,sp b=true):∃ (f:Fn7) (C:Option Addr) (cap:Nat),cs=fnL f C cap∧RdI w C f.code∧f.code.length≤9223372036854775807:=by
  obtain ⟨xs,m,_,_,hl,hxl,hi⟩:=DataW.trod_struct oiF h
  have hz:(Try.prog.fieldsOf 24).size=5:=by simpa using congrArg List.length ofF
  rw [ocF] at hl
  rw [hz] at hxl
  obtain ⟨f0,a0,b0,c0⟩:=field_at ofF 0 _ rfl
  obtain ⟨f1,a1,b1,c1⟩:=field_at ofF 1 _ rfl
  obtain ⟨f2,a2,b2,c2⟩:=field_at ofF 2 _ rfl
  obtain ⟨f3,a3,b3,c3⟩:=field_at ofF 3 _ rfl
  obtain ⟨f4,a4,b4,c4⟩:=field_at ofF 4 _ rfl
  have h0:=hi 0 f0 a0
  have h1:=hi 1 f1 a1
  have h2:=hi 2 f2 a2
  have h3:=hi 3 f3 a3
  have h4:=hi 4 f4 a4
  rw [b0,c0,ocs,List.getElem?_eq_getElem (by omega)] at h0
  rw [b1,c1,oc3,List.getElem?_eq_getElem (by omega)] at h1
  rw [b2,c2,oc3,List.getElem?_eq_getElem (by omega)] at h2
  rw [b3,c3,oc3,List.getElem?_eq_getElem (by omega)] at h3
  rw [b4,c4,ocl,List.getElem?_eq_getElem (by omega)] at h4
  obtain ⟨s,e0,_⟩:=DataW.trod_string ois h0
  obtain ⟨n1,e1,_⟩:=DataW.trod_int oi3 h1
  obtain ⟨n2,e2,_⟩:=DataW.trod_int oi3 h2
  obtain ⟨n3,e3,_⟩:=DataW.trod_int oi3 h3
  obtain ⟨C,l,cap,e4,hF,hll⟩:=trod_instrs h4 hsp
  clear hi h0 h1 h2 h3 h4
  match cs,hl with
  | [a,b,c,d,e],_ =>
    simp at e0 e1 e2 e3 e4
    exact ⟨⟨s,n1,n2,n3,l⟩,C,cap,by simp [e0,e1,e2,e3,e4],hF,hll⟩
set_option maxRecDepth 100000 in
theorem trod_funcs (h:DataW.trod enc Try.prog w 0 sp held fuel 40 cs=some x) (hsp:∀ b,sp b=true):∃ (A:Option Addr) (l:List Fn7) (cap:Nat),cs=[.slice A l.length cap]∧RdF w A l∧l.length≤9223372036854775807∧∀ f ∈ l,f.code.length≤9223372036854775807:=by
  rcases Go.Deep.open_slice (e:=24) (by kernel_rfl) h with ⟨hcs,_⟩ | ⟨a,len,cap,m,n,D,Pl,hcs,_,hlc,hcm,hm,hx,hi⟩
  · exact ⟨none,[],0,hcs,(fun j f hf=>by simp at hf),by simp,fun f hf=>by simp at hf⟩
  · rw [ocF] at hi
    have hm':m=cap:=by rw [hm,if_pos (hsp _)]
    subst hm'
    have hrows:∀ i,i < len→∃ r:Fn7 × Option Addr × Nat,w.cells? 0 (a.add (i * 5)) 5=some (fnL r.1 r.2.1 r.2.2)∧RdI w r.2.1 r.1.code∧r.1.code.length≤9223372036854775807:=fun i hil=>by
      obtain ⟨cs',hc,ht⟩:=hi i (by omega)
      obtain ⟨f,C,c,rfl,h1,h2⟩:=trod_fn ht hsp
      exact ⟨(f,C,c),hc,h1,h2⟩
    haveI:Inhabited (Fn7 × Option Addr × Nat):=⟨(⟨⟨#[]⟩,0,0,0,[]⟩,none,0)⟩
    obtain ⟨f,hfr⟩:=Go.Deep.choose_lt hrows
    refine ⟨some a,(List.range len).map fun i=>(f i).1,m,by simpa using hcs,fun j g hg=>?_,by simp [maxLen] at hcm ⊢; omega,fun g hg=>?_⟩
    · have hj:j < len:=by simpa using (List.getElem?_eq_some_iff.1 hg).1
      have hgf:g=(f j).1:=by simp [hj] at hg; exact hg.symm
      subst hgf
      have hc:=(World.cells?_some (hfr j hj).1).2.2
      have h00:=(World.cells?_some (hfr 0 (by omega)).1).2.2 0 (by omega)
      have hsp':a.spot=none:=by
        have e1:(a.add (0 * 5)).add 0=a.add 0:=by simp [Addr.add]
        rw [e1] at h00
        exact no_spot h00 rfl
      obtain ⟨b,o,spot⟩:=a
      simp only at hsp'
      subst hsp'
      have c0:=hc 0 (by omega)
      rw [addr_add2] at c0
      refine ⟨b,o,(f j).2.1,(f j).2.2,rfl,cell_lt c0,fun k hk=>?_,(hfr j hj).2.1⟩
      have ck:=hc k hk
      rw [addr_add2] at ck
      rw [ck,List.getElem?_eq_getElem (by exact hk)]
    · obtain ⟨i,hi,rfl⟩:=List.mem_map.1 hg
      exact (hfr i (by simpa using hi)).2.2
set_option maxRecDepth 100000 in
theorem trod_globs (h:DataW.trod enc Try.prog w 0 sp held fuel 41 cs=some x)(hsp:∀ b,sp b=true):∃ (A:Option Addr) (l:List Gl) (cap:Nat),cs=[.slice A l.length cap]∧RdG w A l∧l.length≤9223372036854775807:=by
  rcases Go.Deep.open_slice (e:=81) (by kernel_rfl) h with ⟨hcs,_⟩ | ⟨a,len,cap,m,n,D,Pl,hcs,_,hlc,hcm,hm,hx,hi⟩
  · exact ⟨none,[],0,hcs,(fun j f hf=>by simp at hf),by simp⟩
  · rw [ocG] at hi
    have hm':m=cap:=by rw [hm,if_pos (hsp _)]
    subst hm'
    have hrows:∀ i,i < len→∃ r:Gl,w.cells? 0 (a.add (i * 4)) 4=some (glL r):=fun i hil=>by
      obtain ⟨cs',hc,ht⟩:=hi i (by omega)
      obtain ⟨r,rfl⟩:=trod_gl ht
      exact ⟨r,hc⟩
    haveI:Inhabited Gl:=⟨⟨⟨#[]⟩,0,0,0⟩⟩
    obtain ⟨f,hfr⟩:=Go.Deep.choose_lt hrows
    refine ⟨some a,(List.range len).map f,m,by simpa using hcs,fun j g hg=>?_,by simp [maxLen] at hcm ⊢; omega⟩
    have hj:j < len:=by simpa using (List.getElem?_eq_some_iff.1 hg).1
    have hgf:g=f j:=by simp [hj] at hg; exact hg.symm
    subst hgf
    have hc:=(World.cells?_some (hfr j hj)).2.2
    have h00:=(World.cells?_some (hfr 0 (by omega))).2.2 0 (by omega)
    have hsp':a.spot=none:=by
      have e1:(a.add (0 * 4)).add 0=a.add 0:=by simp [Addr.add]
      rw [e1] at h00
      exact no_spot h00 rfl
    obtain ⟨b,o,spot⟩:=a
    simp only at hsp'
    subst hsp'
    have c0:=hc 0 (by omega)
    rw [addr_add2] at c0
    refine ⟨b,o,rfl,cell_lt c0,fun k hk=>?_⟩
    have ck:=hc k hk
    rw [addr_add2] at ck
    rw [ck,List.getElem?_eq_getElem (by exact hk)]
end
set_option maxRecDepth 100000 in
theorem open_unit {H:Type}{enc:TypeId × Value→H}{w:World}{v:Value}{d:DataW H}{p:List MemPlace}{r:Reach}{b0:Nat}(h:DataW.Trod enc Try.prog w 0 (fun _=>true) true 43 v d p)(hv:Value.okWide Try.prog w r b0 43 v) :
    ∃ (u:Un7) (F G:Option Addr) (cF cG:Nat),v=unAgg u F G cF cG∧RdU w F G u∧u.funcs.length≤9223372036854775807∧u.globs.length≤9223372036854775807∧∀ f ∈ u.funcs,f.code.length≤9223372036854775807:=by
  obtain ⟨cs,rfl,hsz⟩:=okWide_struct oiU hv
  obtain ⟨fuel,hf⟩:=h
  obtain ⟨xs,m,_,_,hl,hxl,hi⟩:=DataW.trod_struct oiU hf
  have hz:(Try.prog.fieldsOf 43).size=3:=by simpa using congrArg List.length ofU
  rw [ocU] at hl hsz
  rw [hz] at hxl
  obtain ⟨f0,a0,b0,c0⟩:=field_at ofU 0 _ rfl
  obtain ⟨f1,a1,b1,c1⟩:=field_at ofU 1 _ rfl
  obtain ⟨f2,a2,b2,c2⟩:=field_at ofU 2 _ rfl
  have h0:=hi 0 f0 a0
  have h1:=hi 1 f1 a1
  have h2:=hi 2 f2 a2
  rw [b0,c0,ocFs,List.getElem?_eq_getElem (by omega)] at h0
  rw [b1,c1,ocGs,List.getElem?_eq_getElem (by omega)] at h1
  rw [b2,c2,oc3,List.getElem?_eq_getElem (by omega)] at h2
  obtain ⟨F,fs,cF,e0,hF,hl0,hc0⟩:=trod_funcs h0 (fun _=>rfl)
  obtain ⟨G,gs,cG,e1,hG,hl1⟩:=trod_globs h1 (fun _=>rfl)
  obtain ⟨n2,e2,_⟩:=DataW.trod_int oi3 h2
  clear hi h0 h1 h2 hf
  obtain ⟨c⟩:=cs
  match c,hsz with
  | [a,b,c],_ =>
    simp [Value.cells] at e0 e1 e2
    exact ⟨⟨fs,gs,n2⟩,F,G,cF,cG,by simp [e0,e1,e2],⟨hF,hG⟩,hl0,hl1,hc0⟩
set_option maxRecDepth 100000 in
theorem open_bytes {H:Type} {enc:TypeId × Value→H} {w:World} {v:Value} {d:DataW H} {p:List MemPlace} {r:Reach} {b0:Nat} (h:DataW.Trod enc Try.prog w 0 (fun _=>true) true 44 v d p) (hv:Value.okWide Try.prog w r b0 44 v) :
    ∃ (A:Option Addr) (l:List Int) (cap:Nat),v = .slice A l.length cap∧RdB w A l∧l.length≤cap∧l.length≤9223372036854775807∧∀ n ∈ l,0≤n∧n≤255:=by
  obtain ⟨a0,len0,cap0,rfl⟩:=okWide_slice (show Try.prog.underlying 44=some (.slice 5) by kernel_rfl) hv
  obtain ⟨fuel,hf⟩:=h
  rcases Go.Deep.open_slice (e:=5) (by kernel_rfl) hf with ⟨hcs,_⟩ | ⟨a,len,cap,m,n,D,Pl,hcs,_,hlc,hcm,hm,hx,hi⟩
  · simp [Value.cells] at hcs
    obtain ⟨rfl,rfl,rfl⟩:=hcs
    exact ⟨none,[],0,rfl,(fun j s hs=>by simp at hs),by simp,by simp,fun n hn=>by simp at hn⟩
  · simp [Value.cells] at hcs
    obtain ⟨rfl,rfl,rfl⟩:=hcs
    rw [ocb] at hi
    have hm':m=cap0:=by simpa using hm
    subst hm'
    have hrows:∀ i,i < len0→∃ r:Int,w.cells? 0 (a.add (i * 1)) 1=some [.int .u8 r]∧0≤r∧r≤255:=fun i hil=>by
      obtain ⟨cs',hc,ht⟩:=hi i (by omega)
      obtain ⟨r,rfl,_,hwf⟩:=DataW.trod_int oib ht
      refine ⟨r,hc,?_⟩
      have h:(decide ((IntKind.u8).min≤r) && decide (r≤(IntKind.u8).max))=true:=hwf
      rw [Bool.and_eq_true,decide_eq_true_eq,decide_eq_true_eq,show (IntKind.u8).min=0 from by decide,show (IntKind.u8).max=255 from by decide] at h
      exact h
    obtain ⟨f,hfr⟩:=Go.Deep.choose_lt hrows
    refine ⟨some a,(List.range len0).map f,m,by simp,fun j g hg=>?_,by simp; omega,by simp [maxLen] at hcm ⊢; omega,fun g hg=>?_⟩
    · have hj:j < len0:=by simpa using (List.getElem?_eq_some_iff.1 hg).1
      have hgf:g=f j:=by simp [hj] at hg; exact hg.symm
      subst hgf
      have hc:=(World.cells?_some (hfr j hj).1).2.2
      have h00:=(World.cells?_some (hfr 0 (by omega)).1).2.2 0 (by omega)
      have hsp':a.spot=none:=by
        have e1:(a.add (0 * 1)).add 0=a.add 0:=by simp [Addr.add]
        rw [e1] at h00
        exact no_spot h00 rfl
      obtain ⟨b,o,spot⟩:=a
      simp only at hsp'
      subst hsp'
      have c0:=hc 0 (by omega)
      rw [addr_add2] at c0
      refine ⟨b,o,rfl,cell_lt c0,?_⟩
      have e:o + j=o + (j * 1 + 0):=by omega
      rw [e,c0]
      rfl
    · obtain ⟨i,hi,rfl⟩:=List.mem_map.1 hg
      exact (hfr i (by simpa using hi)).2
end Go.Proofs.Ytkcclefonmnpnaa

