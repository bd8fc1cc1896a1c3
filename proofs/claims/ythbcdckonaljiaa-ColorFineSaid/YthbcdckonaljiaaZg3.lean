import Derived.Deep.Slices
import Derived.ChangeArms
import Derived.OpenShut
import Derived.SizedLaws
import Derived.Carry
import Derived.Laws.CopyRow
import Derived.Laws.MakeOwn
import Derived.Deep.LoopGhost
import Derived.Deep.RegionHeld3
import Derived.Deep.RegionWith
import Derived.WalkMore
import Derived.ScopeJumps
import Derived.Laws.BitsLemmas
import Derived.Laws.Shifts
import Derived.Test.YthbcdckonaljiaaZe1
namespace Go.Proofs.Ythbcdckonaljiaa
open Go.ChangeShapes Go.WideShapes Go.ChangeAt Go.RowKit
theorem oi3:Try.prog.underlying 3=some (.int .i64):=by kernel_rfl
theorem oiop:Try.prog.underlying 28=some (.int .i64):=by kernel_rfl
theorem ois:Try.prog.underlying 9=some .string:=by kernel_rfl
theorem oia:Try.prog.underlying 29=some (.array 6 3):=by kernel_rfl
theorem oiI:Try.prog.underlying 31=some (.struct (Try.prog.fieldsOf 31)):=by kernel_rfl
theorem oiF:Try.prog.underlying 26=some (.struct (Try.prog.fieldsOf 26)):=by kernel_rfl
theorem oc3:Try.prog.cellsOf 3=1:=by kernel_rfl
theorem ocop:Try.prog.cellsOf 28=1:=by kernel_rfl
theorem ocs:Try.prog.cellsOf 9=1:=by kernel_rfl
theorem oca:Try.prog.cellsOf 29=6:=by kernel_rfl
theorem ocl:Try.prog.cellsOf 24=1:=by kernel_rfl
theorem ocI:Try.prog.cellsOf 31=15:=by kernel_rfl
theorem ocF:Try.prog.cellsOf 26=5:=by kernel_rfl
theorem ofI:(Try.prog.fieldsOf 31).toList.map (fun f=>(f.type,f.offset))=[(3,0),(28,1),(3,2),(3,3),(3,4),(3,5),(9,6),(29,7),(3,13),(3,14)]:=by kernel_rfl
theorem ofF:(Try.prog.fieldsOf 26).toList.map (fun f=>(f.type,f.offset))=[(9,0),(3,1),(3,2),(3,3),(24,4)]:=by kernel_rfl
theorem field_at {fs:Array Field}{l:List (Nat × Nat)}(h:fs.toList.map (fun f=>(f.type,f.offset))=l)(i:Nat)(p:Nat × Nat)(hp:l[i]? = some p):∃ f,fs[i]? = some f∧f.type=p.1∧f.offset=p.2:=by
  subst h
  rw [List.getElem?_map] at hp
  cases hf:fs.toList[i]? with
  | none=>rw [hf] at hp; cases hp
  | some f =>
    rw [hf] at hp
    injection hp with hp
    subst hp
    exact ⟨f,by simpa using hf,rfl,rfl⟩
theorem cell_lt {w:World}{b o:Nat}{v:Value}(h:w.cell? ⟨b,o,none⟩=some v):b < w.heap.size:=by
  by_cases hb:b < w.heap.size
  · exact hb
  · have:w.heap[b]? = none:=by simp; omega
    simp [World.cell?,this] at h
section
variable {H:Type} {enc:TypeId × Value→H} {w:World} {base:Nat} {sp:Nat→Bool} {held:Bool} {fuel:Nat} {cs:List Value} {x:DataW H × List MemPlace}
set_option maxRecDepth 100000 in
theorem trod_args (h:DataW.trod enc Try.prog w base sp held fuel 29 cs=some x):∃ r0 r1 r2 r3 r4 r5:Int,cs=[.int .i64 r0,.int .i64 r1,.int .i64 r2,.int .i64 r3,.int .i64 r4,.int .i64 r5]:=by
  obtain ⟨xs,m,_,_,hl,hxl,hi⟩:=DataW.trod_array oia h
  rw [oca] at hl
  have h0:=hi 0 (by omega)
  have h1:=hi 1 (by omega)
  have h2:=hi 2 (by omega)
  have h3:=hi 3 (by omega)
  have h4:=hi 4 (by omega)
  have h5:=hi 5 (by omega)
  rw [oc3,List.getElem?_eq_getElem (by omega)] at h0 h1 h2 h3 h4 h5
  obtain ⟨n0,e0,_⟩:=DataW.trod_int oi3 h0
  obtain ⟨n1,e1,_⟩:=DataW.trod_int oi3 h1
  obtain ⟨n2,e2,_⟩:=DataW.trod_int oi3 h2
  obtain ⟨n3,e3,_⟩:=DataW.trod_int oi3 h3
  obtain ⟨n4,e4,_⟩:=DataW.trod_int oi3 h4
  obtain ⟨n5,e5,_⟩:=DataW.trod_int oi3 h5
  match cs,hl with
  | [a,b,c,d,e,f],_ =>
    simp at e0 e1 e2 e3 e4 e5
    exact ⟨n0,n1,n2,n3,n4,n5,by simp [e0,e1,e2,e3,e4,e5]⟩
set_option maxRecDepth 100000 in
theorem trod_ins (h:DataW.trod enc Try.prog w base sp held fuel 31 cs=some x):∃ i:Ins,cs=i.l:=by
  obtain ⟨xs,m,_,_,hl,hxl,hi⟩:=DataW.trod_struct oiI h
  have hsz:(Try.prog.fieldsOf 31).size=10:=by simpa using congrArg List.length ofI
  rw [ocI] at hl
  rw [hsz] at hxl
  obtain ⟨f0,a0,b0,c0⟩:=field_at ofI 0 _ rfl
  obtain ⟨f1,a1,b1,c1⟩:=field_at ofI 1 _ rfl
  obtain ⟨f2,a2,b2,c2⟩:=field_at ofI 2 _ rfl
  obtain ⟨f3,a3,b3,c3⟩:=field_at ofI 3 _ rfl
  obtain ⟨f4,a4,b4,c4⟩:=field_at ofI 4 _ rfl
  obtain ⟨f5,a5,b5,c5⟩:=field_at ofI 5 _ rfl
  obtain ⟨f6,a6,b6,c6⟩:=field_at ofI 6 _ rfl
  obtain ⟨f7,a7,b7,c7⟩:=field_at ofI 7 _ rfl
  obtain ⟨f8,a8,b8,c8⟩:=field_at ofI 8 _ rfl
  obtain ⟨f9,a9,b9,c9⟩:=field_at ofI 9 _ rfl
  have h0:=hi 0 f0 a0
  have h1:=hi 1 f1 a1
  have h2:=hi 2 f2 a2
  have h3:=hi 3 f3 a3
  have h4:=hi 4 f4 a4
  have h5:=hi 5 f5 a5
  have h6:=hi 6 f6 a6
  have h7:=hi 7 f7 a7
  have h8:=hi 8 f8 a8
  have h9:=hi 9 f9 a9
  rw [b0,c0,oc3,List.getElem?_eq_getElem (by omega)] at h0
  rw [b1,c1,ocop,List.getElem?_eq_getElem (by omega)] at h1
  rw [b2,c2,oc3,List.getElem?_eq_getElem (by omega)] at h2
  rw [b3,c3,oc3,List.getElem?_eq_getElem (by omega)] at h3
  rw [b4,c4,oc3,List.getElem?_eq_getElem (by omega)] at h4
  rw [b5,c5,oc3,List.getElem?_eq_getElem (by omega)] at h5
  rw [b6,c6,ocs,List.getElem?_eq_getElem (by omega)] at h6
  rw [b7,c7,oca,List.getElem?_eq_getElem (by omega)] at h7
  rw [b8,c8,oc3,List.getElem?_eq_getElem (by omega)] at h8
  rw [b9,c9,oc3,List.getElem?_eq_getElem (by omega)] at h9
  obtain ⟨n0,e0,_⟩:=DataW.trod_int oi3 h0
  obtain ⟨n1,e1,_⟩:=DataW.trod_int oiop h1
  obtain ⟨n2,e2,_⟩:=DataW.trod_int oi3 h2
  obtain ⟨n3,e3,_⟩:=DataW.trod_int oi3 h3
  obtain ⟨n4,e4,_⟩:=DataW.trod_int oi3 h4
  obtain ⟨n5,e5,_⟩:=DataW.trod_int oi3 h5
  obtain ⟨s6,e6,_⟩:=DataW.trod_string ois h6
  obtain ⟨r0,r1,r2,r3,r4,r5,e7⟩:=trod_args h7
  obtain ⟨n8,e8,_⟩:=DataW.trod_int oi3 h8
  obtain ⟨n9,e9,_⟩:=DataW.trod_int oi3 h9
  clear hi h0 h1 h2 h3 h4 h5 h6 h7 h8 h9
  match cs,hl with
  | [a,b,c,d,e,f,g,k0,k1,k2,k3,k4,k5,u,v],_ =>
    simp at e0 e1 e2 e3 e4 e5 e6 e7 e8 e9
    exact ⟨⟨n0,n1,n2,n3,n4,n5,s6,r0,r1,r2,r3,r4,r5,n8,n9⟩,by simp [e0,e1,e2,e3,e4,e5,e6,e7,e8,e9]⟩
theorem addr_add2 (b o q m:Nat):((⟨b,o,none⟩:Addr).add q).add m=⟨b,o + (q + m),none⟩:=by
  rw [Go.Deep.add_add]; unfold Addr.add; split
  · rename_i h0; rw [h0,Nat.add_zero]
  · rfl
theorem no_spot {a:Addr}{v:Value}{n:Nat}(h:w.cell? (a.add n)=some v)(hn:n=0):a.spot=none:=by
  subst hn
  rcases hs:a.spot with _ | s
  · rfl
  · exfalso
    have e1:a.add 0=a:=by simp [Addr.add]
    rw [e1] at h
    have:w.cell? a=none:=by unfold World.cell?; split <;> simp [hs]
    rw [this] at h
    cases h
set_option maxRecDepth 100000 in
theorem trod_instrs (h:DataW.trod enc Try.prog w 0 sp held fuel 24 cs=some x)(hsp:∀ b,sp b=true):∃ (A:Option Addr) (l:List Ins) (cap:Nat),cs=[.slice A l.length cap]∧RdI w A l∧l.length≤9223372036854775807:=by
  rcases Go.Deep.open_slice (e:=31) (by kernel_rfl) h with ⟨hcs,_⟩ | ⟨a,len,cap,m,n,D,Pl,hcs,_,hlc,hcm,hm,hx,hi⟩
  · exact ⟨none,[],0,hcs,(fun j f hf=>by simp at hf),by simp⟩
  · rw [ocI] at hi
    have hm':m=cap:=by rw [hm,if_pos (hsp _)]
    subst hm'
    have hrows:∀ i,i < len→∃ r:Ins,w.cells? 0 (a.add (i * 15)) 15=some r.l:=fun i hil=>by
      obtain ⟨cs',hc,ht⟩:=hi i (by omega)
      obtain ⟨r,rfl⟩:=trod_ins ht
      exact ⟨r,hc⟩
    haveI:Inhabited Ins:=⟨⟨0,0,0,0,0,0,⟨#[]⟩,0,0,0,0,0,0,0,0⟩⟩
    obtain ⟨f,hfr⟩:=Go.Deep.choose_lt hrows
    refine ⟨some a,(List.range len).map f,m,by simpa using hcs,fun j g hg=>?_,by simp [maxLen] at hcm ⊢; omega⟩
    have hj:j < len:=by simpa using (List.getElem?_eq_some_iff.1 hg).1
    have hgf:g=f j:=by simp [hj] at hg; exact hg.symm
    subst hgf
    have hc:=(World.cells?_some (hfr j hj)).2.2
    have h00:=(World.cells?_some (hfr 0 (by omega))).2.2 0 (by omega)
    have hsp':a.spot=none:=by
      have e1:(a.add (0 * 15)).add 0=a.add 0:=by simp [Addr.add]
      rw [e1] at h00
      exact no_spot (v:=(f 0).l[0]) h00 rfl
    obtain ⟨b,o,spot⟩:=a
    simp only at hsp'
    subst hsp'
    have c0:=hc 0 (by omega)
    rw [addr_add2] at c0
    refine ⟨b,o,rfl,cell_lt c0,fun k hk=>?_⟩
    have ck:=hc k hk
    rw [addr_add2] at ck
    rw [ck,List.getElem?_eq_getElem (by exact hk)]
end
set_option maxRecDepth 100000 in
theorem open_func {H:Type}{enc:TypeId × Value→H}{w:World}{v:Value}{d:DataW H}{p:List MemPlace}{r:Reach}{b0:Nat}(h:DataW.Trod enc Try.prog w 0 (fun _=>true) true 26 v d p)(hv:Value.okWide Try.prog w r b0 26 v) :
    ∃ (f:Fn7) (C:Option Addr) (cap:Nat),v=funcAgg f.nm f.ps f.R f.Fr C f.code.length cap∧RdI w C f.code∧f.code.length≤9223372036854775807:=by
  obtain ⟨cs,rfl,hsz⟩:=okWide_struct oiF hv
  obtain ⟨fuel,hf⟩:=h
  obtain ⟨xs,m,_,_,hl,hxl,hi⟩:=DataW.trod_struct oiF hf
  have hz:(Try.prog.fieldsOf 26).size=5:=by simpa using congrArg List.length ofF
  rw [ocF] at hl hsz
  rw [hz] at hxl
  obtain ⟨f0,a0,b0,c0⟩:=field_at ofF 0 _ rfl
  obtain ⟨f1,a1,b1,c1⟩:=field_at ofF 1 _ rfl
  obtain ⟨f2,a2,b2,c2⟩:=field_at ofF 2 _ rfl
  obtain ⟨f3,a3,b3,c3⟩:=field_at ofF 3 _ rfl
  obtain ⟨f4,a4,b4,c4⟩:=field_at ofF 4 _ rfl
  have h0:=hi 0 f0 a0
  have h1:=hi 1 f1 a1
  have h2:=hi 2 f2 a2
  have h3:=hi 3 f3 a3
  have h4:=hi 4 f4 a4
  rw [b0,c0,ocs,List.getElem?_eq_getElem (by omega)] at h0
  rw [b1,c1,oc3,List.getElem?_eq_getElem (by omega)] at h1
  rw [b2,c2,oc3,List.getElem?_eq_getElem (by omega)] at h2
  rw [b3,c3,oc3,List.getElem?_eq_getElem (by omega)] at h3
  rw [b4,c4,ocl,List.getElem?_eq_getElem (by omega)] at h4
  obtain ⟨s,e0,_⟩:=DataW.trod_string ois h0
  obtain ⟨n1,e1,_⟩:=DataW.trod_int oi3 h1
  obtain ⟨n2,e2,_⟩:=DataW.trod_int oi3 h2
  obtain ⟨n3,e3,_⟩:=DataW.trod_int oi3 h3
  obtain ⟨C,l,cap,e4,hF,hll⟩:=trod_instrs h4 (fun _=>rfl)
  clear hi h0 h1 h2 h3 h4 hf
  obtain ⟨c⟩:=cs
  match c,hsz with
  | [a,b,c,d,e],_ =>
    simp [Value.cells] at e0 e1 e2 e3 e4
    exact ⟨⟨s,n1,n2,n3,l⟩,C,cap,by simp [e0,e1,e2,e3,e4],hF,hll⟩
end Go.Proofs.Ythbcdckonaljiaa
namespace Go.Proofs.Ythbcdckonaljiaa
open Go.ChangeShapes Go.WideShapes Go.ChangeAt Go.RowKit
theorem ub4:Try.prog.underlying 4=some .bool:=by kernel_rfl
end Go.Proofs.Ythbcdckonaljiaa
namespace Go.Proofs.Ythbcdckonaljiaa
open Go.ChangeShapes Go.WideShapes Go.ChangeAt Go.RowKit
section
variable {H:Type} {enc:TypeId × Value→H} {P:Program}
theorem trodAll_len {w:World}{base:Nat}{sp:Nat→Bool}{held:Bool}:∀ {ts:List TypeId} {vs:List Value} {ds:List (DataW H)} {ps:List MemPlace},DataW.TrodAll enc P w base sp held ts vs ds ps→vs.length=ts.length∧ds.length=ts.length
  | [],[],[],_,_=>⟨rfl,rfl⟩
  | _::_,_::_,_::_,_,⟨_,_,_,h,_⟩=>by
    have:=trodAll_len h
    simp [this]
  | [],_::_,_,_,h=>h.elim
  | [],[],_::_,_,h=>h.elim
  | _::_,[],_,_,h=>h.elim
  | _::_,_::_,[],_,h=>h.elim
theorem trodAll_stays (hl:laidOutB P=true){W W':World}(hb:Below W.heap.size W W'){sp:Nat→Bool}:∀ {ts:List TypeId} {vs:List Value} {ds:List (DataW H)} {ps:List MemPlace},(∀ t ∈ ts,P.readableRec t=true∧t < P.types.size) →
    DataW.TrodAll enc P W 0 (fun _=>true) true ts vs ds ps→(∀ x ∈ ps,x.block < W.heap.size)→(∀ x ∈ ps,sp x.block=true)→DataW.TrodAll enc P W' 0 sp true ts vs ds ps
  | [],[],[],_,_,h,_,_=>h
  | t::ts,v::vs,d::ds,ps,hr,⟨p,q,h1,h2,e⟩,hlt,hsp=>by
    subst e
    exact ⟨p,q,WideElems.Trod_stays hl (hr t (by simp)).1 (hr t (by simp)).2 h1 (fun x hx=>hb.same (hlt x (List.mem_append_left _ hx))) (fun x hx=>hsp x (List.mem_append_left _ hx)),
      trodAll_stays hl hb (fun t ht=>hr t (by simp [ht])) h2 (fun x hx=>hlt x (List.mem_append_right _ hx)) (fun x hx=>hsp x (List.mem_append_right _ hx)),rfl⟩
  | [],_::_,_,_,_,h,_,_=>h.elim
  | [],[],_::_,_,_,h,_,_=>h.elim
  | _::_,[],_,_,_,h,_,_=>h.elim
  | _::_,_::_,[],_,_,h,_,_=>h.elim
end
theorem law_lifted {H:Type}{enc:TypeId × Value→H}{C:Checked}{os:Os}{f:FuncId}{fn:Func}{s:ChangeSpec}{tb:TypeId}
    (own:ownKnob C.prog.godebug=none) (started:os.Started) (noInit:C.prog.inits.idxOf? f=none) (hfn:C.prog.funcs[f]? = some fn)
    (witness:∃ (w:World) (tape:Tape) (i:Input),w.os=os∧(w.forCall tape i).Shaped C.prog∧i.vars=[]∧Input.okWide C.prog (w.forCall tape i) .any w.heap.size f i ∧
      s.pre6 enc C.prog fn [] false (w.forCall tape i).memory i.args∧({}:Assume).holds C.prog (lone (Frame.enter C.prog f i.args .normal) [] (w.forCall tape i)))
    (hvars:s.vars=[]) (hres:fn.resultTypes=#[tb]) (htb:C.prog.underlying tb=some .bool) (hl:laidOutB C.prog=true)
    (hread:∀ t ∈ fn.params.toList,C.prog.readableRec t=true∧t < C.prog.types.size)
    (hspec:∀ ds:List (DataW H),ds.length=fn.params.toList.length→(s.fn H ds).results=[.lit (.bool true)]∧(s.fn H ds).args=ds∧(s.fn H ds).vars=[])
    (walk:∀ (W:World) (base:Nat) (args:Array Value) (ds:List (DataW H)) (p:List MemPlace),
      (∀ (j:Nat) t v,fn.params[j]? = some t→args[j]? = some v→Value.okWide C.prog W .any base t v) →
      DataW.TrodAll enc C.prog W 0 (fun _=>true) true fn.params.toList args.toList ds p→(∀ x ∈ p,x.block < W.heap.size) →
      (DataW.weightsEach C.prog fn.params.toList ds).all (·≤reachBytes)=true →
      Calls C.prog f args W fun e W'=>e = .returned (.bool true)∧Below W.heap.size W W') :
    ReturnsInHanded {} C os f .any (s.pre6 enc C.prog fn [] false) (s.post enc C.prog fn false true false false):=by
  refine returnsInHanded_of_change_sized own started noInit hfn witness ?_
  intro W base args ds gs before hval hW _ hsz _
  have hW':=hW
  obtain ⟨p,q,hA,hV,rfl,_,_⟩:=hW
  have hgs:gs=[]∧q=[]:=by
    rw [hvars] at hV
    cases gs with
    | nil=>exact ⟨rfl,hV⟩
    | cons g gs=>exact hV.elim
  obtain ⟨rfl,rfl⟩:=hgs
  have hlt:∀ x ∈ p,x.block < W.heap.size:=fun x hx=>hW'.lt x (by simpa using hx)
  have hvt:s.plain.varTypes C.prog=[]:=by
    unfold DataSpec.varTypes
    show List.filterMap _ s.vars=[]
    rw [hvars]; rfl
  rw [hvt,List.append_nil,List.append_nil] at hsz
  obtain ⟨e1,e2,e3⟩:=hspec ds (trodAll_len hA).2
  refine (walk W base args ds p hval hA hlt hsz).mono fun e W' ⟨he,hb⟩=>?_
  subst he
  refine ⟨_,rfl,ds,[],p++[],[],p,[],hW',?_,?_,?_,hb.frame _,fun h=>by cases h⟩
  · rw [List.append_nil,e1,hres]
    exact trodAll_cons_mk (shut_bool htb true) trodAll_mk0
  · rw [List.append_nil,e2]
    exact trodAll_stays hl hb hread hA hlt (fun x hx=>by simpa using hlt x hx)
  · rw [List.append_nil,e3,hvars]; rfl
end Go.Proofs.Ythbcdckonaljiaa

