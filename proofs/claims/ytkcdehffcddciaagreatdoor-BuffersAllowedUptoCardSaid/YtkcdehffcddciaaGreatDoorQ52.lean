/- Facts of calls: they hold. -/
import Derived.Test.YtkcdehffcddciaaGreatDoorQ42
import Derived.Test.YtkcdehffcddciaaGreatDoorQ44
import Derived.Test.YtkcdehffcddciaaGreatDoorQ45
import Derived.Test.YtkcdehffcddciaaGreatDoorQ46
import Derived.Test.YtkcdehffcddciaaGreatDoorQ47
import Derived.Test.YtkcdehffcddciaaGreatDoorQ48
import Derived.Test.YtkcdehffcddciaaGreatDoorQ49
import Derived.Test.YtkcdehffcddciaaGreatDoorQ50
import Derived.Test.YtkcdehffcddciaaGreatDoorQ51
import Derived.Test.YtkcdehffcddciaaGreatDoorQ16
namespace Go.Proofs.YtkcdehffcddciaaGreatDoor.Vm
open Go Go.RowKit
theorem bits_mem:∀(l:List Nat) (k:Nat),Nat.testBit (bits l) k=true→k∈l
 | [],k,h=>by simp[bits]at h
 | j :: l,k,h=>by
  simp only[bits,Nat.testBit_or,Bool.or_eq_true,Nat.testBit_two_pow,decide_eq_true_eq]at h
  rcases h with h | h
  ·simp[h]
  ·simp[bits_mem l k h]
theorem fitAll_ok {P:Program} {l:List Nat} (h:fitAll P l=true) {B:Nat} (hB:bits l=B) (f:FuncId) (fn:Func) (hf:Nat.testBit B f=true) (hfn:P.funcs[f]?=some fn):(fn.name == "runtime.NumGoroutine")=false∧∀c,fn.body=some c→dokC (skB f) c=true:=by
 subst hB
 have:=List.all_eq_true.1 h f (bits_mem l f hf)
 rw[hfn]at this
 simp only[fitFn,Bool.and_eq_true,Bool.not_eq_true']at this
 refine⟨this.1,fun c hc=>?_⟩
 rw[hc]at this
 exact this.2
theorem cfg_fits {fs:List Fact} (h:∀F∈fs,FactOk Tryz.prog F):Fits (cfg fs):=⟨mixedVb,fun f fn hf hfn=>fitAll_ok fit_all fs_bits f fn hf hfn,fun _ _ _ _ hr=>facts_ok fs h hr⟩
theorem lo_cons {fs:List Fact} {F:Fact} (h:∀F∈fs,FactOk Tryz.prog F) (hr:runF (cfg fs) 3000 F=true):∀G∈F :: fs,FactOk Tryz.prog G:=fun G hG=>by
 rcases List.mem_cons.1 hG with rfl | hG
 ·exact fact_of (cfg_fits h) hr
 ·exact h G hG
theorem lo0:∀F∈li0,FactOk Tryz.prog F:=fun F h=>by cases h
theorem lo1:∀F∈li1,FactOk Tryz.prog F:=lo_cons lo0 ru0
theorem lo2:∀F∈li2,FactOk Tryz.prog F:=lo_cons lo1 ru1
theorem lo3:∀F∈li3,FactOk Tryz.prog F:=lo_cons lo2 ru2
theorem lo4:∀F∈li4,FactOk Tryz.prog F:=lo_cons lo3 ru3
theorem lo5:∀F∈li5,FactOk Tryz.prog F:=lo_cons lo4 ru4
theorem lo6:∀F∈li6,FactOk Tryz.prog F:=lo_cons lo5 ru5
theorem lo7:∀F∈li7,FactOk Tryz.prog F:=lo_cons lo6 ru6
theorem lo8:∀F∈li8,FactOk Tryz.prog F:=lo_cons lo7 ru7
theorem lo9:∀F∈li9,FactOk Tryz.prog F:=lo_cons lo8 ru8
theorem lo10:∀F∈li10,FactOk Tryz.prog F:=lo_cons lo9 ru9
theorem lo11:∀F∈li11,FactOk Tryz.prog F:=lo_cons lo10 ru10
theorem lo12:∀F∈li12,FactOk Tryz.prog F:=lo_cons lo11 ru11
theorem lo13:∀F∈li13,FactOk Tryz.prog F:=lo_cons lo12 ru12
theorem lo14:∀F∈li14,FactOk Tryz.prog F:=lo_cons lo13 ru13
theorem lo15:∀F∈li15,FactOk Tryz.prog F:=lo_cons lo14 ru14
theorem lo16:∀F∈li16,FactOk Tryz.prog F:=lo_cons lo15 ru15
theorem lo17:∀F∈li17,FactOk Tryz.prog F:=lo_cons lo16 ru16
theorem lo18:∀F∈li18,FactOk Tryz.prog F:=lo_cons lo17 ru17
theorem lo19:∀F∈li19,FactOk Tryz.prog F:=lo_cons lo18 ru18
theorem lo20:∀F∈li20,FactOk Tryz.prog F:=lo_cons lo19 ru19
theorem lo21:∀F∈li21,FactOk Tryz.prog F:=lo_cons lo20 ru20
theorem lo22:∀F∈li22,FactOk Tryz.prog F:=lo_cons lo21 ru21
theorem lo23:∀F∈li23,FactOk Tryz.prog F:=lo_cons lo22 ru22
theorem lo24:∀F∈li24,FactOk Tryz.prog F:=lo_cons lo23 ru23
theorem lo25:∀F∈li25,FactOk Tryz.prog F:=lo_cons lo24 ru24
theorem lo26:∀F∈li26,FactOk Tryz.prog F:=lo_cons lo25 ru25
theorem lo27:∀F∈li27,FactOk Tryz.prog F:=lo_cons lo26 ru26
theorem lo28:∀F∈li28,FactOk Tryz.prog F:=lo_cons lo27 ru27
def tabZ:List Int:=[0,1,56,2,57,49,28,3,61,58,42,50,38,29,17,4,62,47,59,36,45,43,51,22,53,39,33,30,24,18,12,5,63,55,48,27,60,41,37,16,46,35,44,21,52,32,23,11,54,26,40,15,34,20,31,10,25,14,19,9,13,8,7,6]
theorem tab_eq:tab0=some (.ro (some 0) 0 (tabZ.map fun z=>V.i .u8 z)):=by kernel_rfl
def TabW (w:World):Prop:=∀j,j<64→w.cell? ⟨0,j,none⟩=some (.int .u8 (tabZ.getD j 0))
theorem tab_len:tabZ.length=64:=by kernel_rfl
noncomputable def tabO:O:=(PO.ro (some 0) 0 (tabZ.map fun z=>V.i .u8 z)).toO
theorem tab_get {b:Nat} {U:O} (hb:(hOf [tab0]).t.get b=some U):b=0∧U=tabO:=by
 rw[hOf_get]at hb
 match b with
 | 0 =>
  rw[tab_eq]at hb
  exact⟨rfl,(Option.some.inj hb).symm⟩
 | b+1=>cases hb
def TabH (h:H):Prop:=∃hi c,h.t.get 0=some (.ro (some 0) 0 hi c)∧64≤hi∧∀o,o<64→c.get o=some (.i .u8 (tabZ.getD o 0))
theorem fact_fx {F:Fact} (hF:FactOk Tryz.prog F) (ha:F.args = []) (hp:F.pre = [tab0]) (hv:F.v=.b true) {h:H} (hT:TabH h):FX false Tryz.prog F.f [] h fun v _=>v=.b true:=by
 obtain⟨hi,c,ht,h64,hc⟩:=hT
 refine⟨hF.1,fun A w xs hm hx=>?_⟩
 have h0:0<h.next:=hm.lt 0 _ ht
 have hm0:Mt A (hOf F.pre) w:=by
  rw[hp]
  refine⟨fun b U hb=>?_,fun b U hb=>?_,fun b b' U U' hb hb' _=>(tab_get hb).1.trans (tab_get hb').1.symm⟩
  ·rw[(tab_get hb).1]
   exact Nat.zero_lt_one
  ·obtain⟨rfl,rfl⟩:=tab_get hb
   obtain⟨x,hx,h1,cs,e,fr,h2,h3⟩:=hm.obj 0 _ ht
   refine⟨x,hx,h1,cs,e,fr,h2,fun o v ho hv=>?_⟩
   have ho:o<64:=by rw[List.length_map,tab_len]at ho;exact ho
   have hv2:v=.i .u8 (tabZ.getD o 0):=by
    rw[Tr.get_putsL,if_pos ⟨Nat.zero_le _,by rw[List.length_map,tab_len];omega⟩,Nat.sub_zero,List.getElem?_map,List.getElem?_eq_getElem (by rw[tab_len];exact ho)]at hv
    rw[List.getD_eq_getElem?_getD,List.getElem?_eq_getElem (by rw[tab_len];exact ho)]
    exact(Option.some.inj hv).symm
   subst hv2
   obtain⟨y,h4,h5,h6⟩:=h3 o _ (by omega) (hc o ho)
   exact⟨y,h4,h5.of_flat rfl,h6⟩
 refine(hF.2 A w xs hm0 (by rw[ha,hp];cases hx;exact .nil)).mono fun e w' ⟨x,he,_,A',hev,hr⟩=>⟨x,he,.b true,h,⟨A,?_,by rw[hv]at hr;rw[hr.of_b];exact .b _⟩,rfl⟩
 have hT:w'.heap[A.ι 0]?=w.heap[A.ι 0]?:=(hev.pin 0 tabO 0 (by rw[hp,hOf_get,tab_eq];rfl) rfl).2.2
 have hk:∀k,k<w.heap.size→w'.heap[k]?=w.heap[k]?:=fun k hk=>by
  by_cases e:A.ι 0=k
  ·rw[←e]
   exact hT
  ·refine hev.fr k hk fun b U hb=>?_
   rw[hp]at hb
   rw[(tab_get hb).1]
   exact e
 have hlt:∀b O,h.t.get b=some O→A.ι b<w.heap.size:=fun b O hb=>by
  obtain⟨x,hx,_⟩:=hm.obj b O hb
  exact(Array.getElem?_eq_some_iff.1 hx).1
 refine⟨⟨hm.lt,fun b O hb=>by rw[hk _ (hlt b O hb)];exact hm.obj b O hb,hm.inj⟩,Nat.le_refl _,fun b _=>⟨rfl,rfl⟩,fun b O hb=>.inr ⟨b,O,hb,rfl⟩,fun k hk1 _=>hk k hk1,hev.size,hev.os,hev.tape,hev.output,fun b O g hb hpn=>⟨rfl,⟨O,hb,hpn⟩,hk _ (hlt b O hb)⟩⟩
theorem lives_fx {h:H} (ht:TabH h):FX false Tryz.prog 14 [] h fun v _=>v=.b true :=
 fact_fx (F:=fa27) (lo28 _ (List.mem_cons_self ..)) rfl rfl rfl ht
end Go.Proofs.YtkcdehffcddciaaGreatDoor.Vm
