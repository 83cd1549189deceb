/- WALKS: what the document's whole program is: an act. -/
import Derived.Test.YtmjilfamjlnigaaGreatQ15
namespace Go.Proofs.YtmjilfamjlnigaaGreat.RefW
open Go Go.RowKit Kit SrcP SrcW
theorem and_swap (a b c d e:Bool):(a&&b&&c&&d&&e)=((a&&c)&&((b&&d)&&e)):=by cases a <;> cases b <;> cases c <;> cases d <;> rfl
theorem exprOk_pos (l:List SrcP.Node) (locals:Int) (h:exprOk l locals=true):0<l.length:=by
 unfold exprOk at h
 simp only[Bool.and_eq_true,decide_eq_true_eq]at h
 exact h.2.1.1
theorem placeOk_zero (cells locals op dst base:Int) (index e f:List SrcP.Node) (mode to_ line col:Int):placeOk cells locals ⟨op,dst,base,0,index,e,f,mode,to_,line,col⟩=(!decide (base<0)&&!decide (cells-1<base)&&index.isEmpty):=by
 unfold placeOk
 simp only
 by_cases h1:base<0
 ·simp[h1]
 ·by_cases h2:cells-1<base
  ·have:cells-max 1 0<base:=by omega
   simp[h1,h2,this]
  ·have:¬(cells-max 1 0<base):=by omega
   simp[h1,h2,this]
theorem powB_range {n:Int} (h:powB n=true):1≤n∧n≤1024:=by
 have h0:n≠0:=fun e=>by subst e;revert h;decide
 rw[powB_iff n h0]at h
 simp at h
 omega
theorem placeOk_pow {cells locals op dst base size:Int} {index e f:List SrcP.Node} {mode to_ line col:Int} (h:size≠0):placeOk cells locals ⟨op,dst,base,size,index,e,f,mode,to_,line,col⟩=(powB size&&!decide (base<0)&&!decide (cells-size<base)&&exprOk index locals):=by
 rw[powB_iff size h]
 unfold placeOk
 simp only
 by_cases h1:size<0
 ·simp[h1]
 ·by_cases h2:1024<size
  ·simp[h2]
  ·by_cases h3:(size.toNat &&& (size-1).toNat)≠0
   ·rw[if_pos (.inr (.inr (.inl h3))),decide_eq_true h3]
    simp
   ·by_cases h4:base<0
    ·simp[h4]
    ·by_cases h5:cells-size<base
     ·have:cells-max 1 size<base:=by omega
      simp[h5,this]
     ·have h6:¬(cells-max 1 size<base):=by omega
      rw[if_neg (by omega)]
      have h7:(size == 0)=false:=by simpa using h
      have h8:decide (0<size)=true:=decide_eq_true (by omega)
      rw[decide_eq_false h1,decide_eq_false h2,decide_eq_false h3,decide_eq_false h4,decide_eq_false h5,h7,h8]
      simp
set_option maxRecDepth 100000 in
set_option maxHeartbeats 0 in
theorem whole_any (a:SrcP.Act) (vi ve vf vt:Value) (cells:Int) (hc:0≤cells∧cells≤4096) (locals n:Nat) (hloc:locals≤24) (_hn:n≤65536) (A:Option Addr) (c:Nat) (w:World) (ha:ActV w vi ve vf a) :
  Calls Tryz.prog 48 #[.agg (actC a vi ve vf),.agg #[.int .i64 cells,vt],.agg #[.int .i64 locals,.slice A n c]] w fun r w'=>r=.returned (.bool (actOk cells locals n a))∧Below w.heap.size w w':=by
 unfold actC
 have HA:=Lib.hid ha
 obtain⟨op,dst,base,size,index,e,f,mode,to_,line,col⟩:=a
 simp only at HA ⊢
 clear ha
 have HMAY:=fun w=>Lib.hid (May_any op mode w)
 have HSETS:=fun w=>Lib.hid (sets_any op w)
 have HPLACED:=fun w=>Lib.hid (placed_any op w)
 go_enter Tryz.func48,Tryz.ntmps48
 go_upto_region 1 with fail
 obtain⟨w5,hw5⟩:∃x,x=((w.alloc (.cells #[.int .i64 op,.int .i64 dst,.int .i64 base,.int .i64 size,vi,ve,vf,.int .i64 mode,.int .i64 to_,.int .i64 line,.int .i64 col] 58)).alloc (.cells #[.int .i64 cells,vt] 24)).alloc (.cells #[.int .i64 locals,.slice A n c] 60):=⟨_,rfl⟩
 have hb5:Below w.heap.size w w5:=by rw[hw5];exact Kit.Below.al (Kit.bl2) _
 have hA5:Blk w5 w.heap.size 58 #[.int .i64 op,.int .i64 dst,.int .i64 base,.int .i64 size,vi,ve,vf,.int .i64 mode,.int .i64 to_,.int .i64 line,.int .i64 col]:=by rw[hw5];exact((Blk.new w _ _).alloc _).alloc _
 have hP5:Blk w5 (w.heap.size+1) 24 #[.int .i64 cells,vt]:=by rw[hw5];exact(Blk.newAt (sizeA w _) _ _).alloc _
 have hT5:Blk w5 (w.heap.size+1+1) 60 #[.int .i64 locals,.slice A n c]:=by rw[hw5];exact Blk.newAt (by rw[sizeA,sizeA]) _ _
 rw[←hw5]
 clear hw5
 have hlt1:=hA5.lt
 have hlt2:=hP5.lt
 have hlt3:=hT5.lt
 generalize hga:w.heap.size=ga at *
 generalize hgp:ga+1=gp at *
 generalize hgt:gp+1=gt at *
 have HGA:=Lib.hid hga
 clear hga hgp hgt
 have hbr:=Below.refl w5.heap.size w5
 go_cut [24] (fun s24 wz=>s24=.bool (!(decide (1≤op∧op≤10)&&mayB op mode))∧Below w5.heap.size w5 wz)
 case first =>
  as_aux_lemma =>
   obtain⟨ka0,ka1,ka2,ka3,ka4,ka5,ka6,ka7,ka8,_,_⟩:=Kit.cells11 (hA5.below' hbr)
   have kp0:w5.cell? ⟨gp,0,none⟩=some (.int .i64 cells):=(hP5.below' hbr).cell 0
   have kt0:w5.cell? ⟨gt,0,none⟩=some (.int .i64 locals):=(hT5.below' hbr).cell 0
   have kt1:w5.cell? ⟨gt,1,none⟩=some (.slice A n c):=(hT5.below' hbr).cell 1
   clear HSETS HPLACED
   by_cases h1:op<1
   ·have d1:decide (1≤op∧op≤10)=false:=decide_eq_false (by omega)
    have D1:=Lib.hid d1
    clear d1
    go_wp2_with fail
    go_meet
    exact⟨by rw[D1.out];rfl,hbr⟩
   by_cases h10:10<op
   ·have d1:decide (1≤op∧op≤10)=false:=decide_eq_false (by omega)
    have D1:=Lib.hid d1
    clear d1
    go_wp2_with fail
    go_meet
    exact⟨by rw[D1.out];rfl,hbr⟩
   have d1:decide (1≤op∧op≤10)=true:=decide_eq_true (by omega)
   have D1:=Lib.hid d1
   clear d1
   cases hm:mayB op mode
   ·have HM:=Lib.hid hm
    simp only[hm]at HMAY
    clear hm
    go_wp2_with (go_at_call 69;refine(HMAY _).out.mono ?_;rintro e w2 ⟨rfl,rfl⟩)
    go_meet
    exact⟨by rw[D1.out,HM.out];rfl,hbr⟩
   ·have HM:=Lib.hid hm
    simp only[hm]at HMAY
    clear hm
    go_wp2_with (go_at_call 69;refine(HMAY _).out.mono ?_;rintro e w2 ⟨rfl,rfl⟩)
    go_meet
    exact⟨by rw[D1.out,HM.out];rfl,hbr⟩
 case rest =>
  as_aux_lemma =>
   obtain⟨rfl,hbz⟩:=hcut
   clear HMAY
   have hbw:=hb5.trans (hbz.mono (Nat.le_of_lt hlt1))
   by_cases hx:(decide (1≤op∧op≤10)&&mayB op mode)=false
   ·have HX:Hid (actOk cells locals n ⟨op,dst,base,size,index,e,f,mode,to_,line,col⟩=false):=Lib.hid (by unfold actOk;simp only[hx,Bool.false_and])
    rw[hx]
    clear hx
    go_wp2_with fail
    go_ret
    exact⟨by rw[HX.out];rfl,by rw[HGA.out];exact hbw⟩
   have hx':(decide (1≤op∧op≤10)&&mayB op mode)=true:=(Bool.not_eq_false _).mp hx
   have hop:1≤op∧op≤10:=by simp only[Bool.and_eq_true,decide_eq_true_eq]at hx';exact hx'.1
   have HACT:Hid (actOk cells locals n ⟨op,dst,base,size,index,e,f,mode,to_,line,col⟩ =
     ((if hasDst op then decide (0≤dst∧dst<(locals:Int))else dst == 0)
    &&(if hasPlace op then placeOk cells locals ⟨op,dst,base,size,index,e,f,mode,to_,line,col⟩else base == 0&&size == 0&&index.isEmpty)
    &&(hasE op == !e.isEmpty)&&(hasF op == !f.isEmpty)&&(!hasE op || exprOk e locals)&&(!hasF op || exprOk f locals)
    &&(if hasTo op then decide (0≤to_∧to_≤(n:Int))else to_ == 0))):=Lib.hid (by
    simp only[actOk,hx',Bool.true_and])
   rw[hx']
   clear hx hx'
   have HOP:=Lib.hid hop
   clear hop
   go_upto_region 3 with fail
   go_cut [50] (fun s50 wz=>s50=.bool (!(if hasDst op=true then decide (0≤dst∧dst<(locals:Int))else dst == 0))∧Below w5.heap.size w5 wz)
   case first =>
    as_aux_lemma =>
     obtain⟨ka0,ka1,ka2,ka3,ka4,ka5,ka6,ka7,ka8,_,_⟩:=Kit.cells11 (hA5.below' hbz)
     have kp0:wc.cell? ⟨gp,0,none⟩=some (.int .i64 cells):=(hP5.below' hbz).cell 0
     have kt0:wc.cell? ⟨gt,0,none⟩=some (.int .i64 locals):=(hT5.below' hbz).cell 0
     have kt1:wc.cell? ⟨gt,1,none⟩=some (.slice A n c):=(hT5.below' hbz).cell 1
     clear HACT HPLACED
     generalize hasDst op=b0 at *
     cases b0
     ·by_cases hd:dst=0
      ·subst hd
       go_wp2_with (go_at_call 70;refine(HSETS _).out.mono ?_;rintro e w2 ⟨rfl,rfl⟩)
       go_meet
       exact⟨by first | rfl |(simp;done) |(simp;omega),hbz⟩
      ·have q1:(dst != 0)=true:=by simp[hd]
       have q2:(dst == 0)=false:=by simp[hd]
       go_wp2_with (go_at_call 70;refine(HSETS _).out.mono ?_;rintro e w2 ⟨rfl,rfl⟩)
       go_meet
       exact⟨by first | rfl |(simp;done) |(simp;omega),hbz⟩
     ·by_cases hd:dst<0
      ·skip
       go_wp2_with (go_at_call 70;refine(HSETS _).out.mono ?_;rintro e w2 ⟨rfl,rfl⟩)
       go_meet
       exact⟨by first | rfl |(simp;done) |(simp;omega),hbz⟩
      ·by_cases hd2:(locals:Int)≤dst
       ·skip
        go_wp2_with (go_at_call 70;refine(HSETS _).out.mono ?_;rintro e w2 ⟨rfl,rfl⟩)
        go_meet
        exact⟨by first | rfl |(simp;done) |(simp;omega),hbz⟩
       ·have HQ:Hid (decide (0≤dst∧dst<(locals:Int))=true):=Lib.hid (decide_eq_true (by omega))
        go_wp2_with (go_at_call 70;refine(HSETS _).out.mono ?_;rintro e w2 ⟨rfl,rfl⟩)
        go_meet
        exact⟨by rw[if_pos trivial,HQ.out,decide_eq_false (by omega),decide_eq_false (by omega)];rfl,hbz⟩
   case rest =>
    as_aux_lemma =>
     obtain⟨rfl,hbz⟩:=hcut
     generalize (if hasDst op=true then decide (0≤dst∧dst<(locals:Int))else dst == 0)=x0 at *
     have hbw:=hb5.trans (hbz.mono (Nat.le_of_lt hlt1))
     clear HSETS
     cases x0 with
     | false =>
      go_wp2_with fail
      go_ret
      exact⟨Kit.cB (show false=_ by rw[HACT.out];simp),by rw[HGA.out];exact hbw⟩
     | true =>
      have HE1:∀(l:List SrcP.Node) (E:Option Addr) (ce:Nat) (w2:World),l.length≤1048576→NodesAt w2 (.slice E l.length ce) l→Hid (Calls Tryz.prog 73 #[.slice E l.length ce,.int .i64 locals] w2 fun r w'=>r=.returned (.bool (exprOk l locals))∧Below w2.heap.size w2 w') :=
       fun l E ce w2 h h2=>Lib.hid (by rw[←exprR_eq];exact Expression_any E ce l locals hloc h w2 h2)
      go_upto_region 5 with fail
      simp only[Bool.true_and]at HACT
      obtain⟨I,ci,hvi,_⟩:=HA.out.index
      simp only at hvi
      subst hvi
      obtain⟨X1,hX1⟩:∃b,b=(if hasPlace op then placeOk cells locals ⟨op,dst,base,size,index,e,f,mode,to_,line,col⟩else base == 0&&size == 0&&index.isEmpty):=⟨_,rfl⟩
      rw[←hX1]at HACT
      have HX1:=Lib.hid hX1
      have HXF:Hid (X1=false→actOk cells locals n ⟨op,dst,base,size,index,e,f,mode,to_,line,col⟩=false):=Lib.hid fun h=>by rw[HACT.out,h];simp
      clear hX1
      have HEi:∀w2,Below ga w w2→Hid (Calls Tryz.prog 73 #[.slice I index.length ci,.int .i64 locals] w2 fun r w'=>r=.returned (.bool (exprOk index locals))∧Below w2.heap.size w2 w') :=
       fun w2 hb2=>HE1 index I ci w2 HA.out.hi (HA.out.index.below (HGA.out.symm ▸ hb2))
      have ka0:wc.cell? ⟨ga,0,none⟩=some (.int .i64 op):=(hA5.below' hbz).cell 0
      go_upto_if 53 with (go_at_call 71;refine(HPLACED _).out.mono ?_;rintro e w2 ⟨rfl,rfl⟩)
      clear ka0
      go_cut [7] (fun s7 wz=>X1=true∧Below w5.heap.size w5 wz)
      case first =>
       as_aux_lemma =>
        cases hp:hasPlace op with
        | false =>
         have HXN:Hid (X1=(base == 0&&size == 0&&!decide (0<index.length))):=Lib.hid (by rw[HX1.out,hp,show index.isEmpty = !decide (0<index.length) by cases index <;> simp];rfl)
         clear hp HX1 HACT HEi
         obtain⟨ka0,ka1,ka2,ka3,ka4,ka5,ka6,ka7,ka8,_,_⟩:=Kit.cells11 (hA5.below' hbz)
         have kp0:w2.cell? ⟨gp,0,none⟩=some (.int .i64 cells):=(hP5.below' hbz).cell 0
         have kt0:w2.cell? ⟨gt,0,none⟩=some (.int .i64 locals):=(hT5.below' hbz).cell 0
         have kt1:w2.cell? ⟨gt,1,none⟩=some (.slice A n c):=(hT5.below' hbz).cell 1
         generalize index.length=L at *
         by_cases hd:base=0
         ·subst hd
          by_cases hs:size=0
          ·subst hs
           by_cases hl:0<L
           ·have g2:(0:Int)<(L:Int):=by omega
            have hx:X1=false:=by rw[HXN.out,decide_eq_true hl];rfl
            clear HXN hl
            go_wp2_with (first |(go_at_call 72;refine(HPW _).out.mono ?_;rintro e w2 ⟨rfl,rfl⟩) |(go_at_call 73;refine(HEi _ hbw').out.mono ?_;rintro e w3 ⟨rfl,hb3⟩))
            go_ret
            exact⟨Kit.cB (HXF.out hx).symm,by first |(rw[HGA.out];exact hbw) | exact Kit.Below.then (HGA.out.symm ▸ hbw) hb3⟩
           ·have g2:¬(0:Int)<(L:Int):=by omega
            have hx:X1=true:=by rw[HXN.out,decide_eq_false hl];rfl
            clear HXN hl
            go_wp2_with (first |(go_at_call 72;refine(HPW _).out.mono ?_;rintro e w2 ⟨rfl,rfl⟩) |(go_at_call 73;refine(HEi _ hbw').out.mono ?_;rintro e w3 ⟨rfl,hb3⟩))
            go_meet
            exact⟨hx,by first | exact hbz | exact Kit.Below.then hbz hb3⟩
          ·have q1:(size != 0)=true:=by simp[hs]
           have hx:X1=false:=by rw[HXN.out,show(size == 0)=false by simp[hs]];simp
           clear HXN hs
           go_wp2_with (first |(go_at_call 72;refine(HPW _).out.mono ?_;rintro e w2 ⟨rfl,rfl⟩) |(go_at_call 73;refine(HEi _ hbw').out.mono ?_;rintro e w3 ⟨rfl,hb3⟩))
           go_ret
           exact⟨Kit.cB (HXF.out hx).symm,by first |(rw[HGA.out];exact hbw) | exact Kit.Below.then (HGA.out.symm ▸ hbw) hb3⟩
         ·have q1:(base != 0)=true:=by simp[hd]
          have hx:X1=false:=by rw[HXN.out,show(base == 0)=false by simp[hd]];simp
          clear HXN hd
          go_wp2_with (first |(go_at_call 72;refine(HPW _).out.mono ?_;rintro e w2 ⟨rfl,rfl⟩) |(go_at_call 73;refine(HEi _ hbw').out.mono ?_;rintro e w3 ⟨rfl,hb3⟩))
          go_ret
          exact⟨Kit.cB (HXF.out hx).symm,by first |(rw[HGA.out];exact hbw) | exact Kit.Below.then (HGA.out.symm ▸ hbw) hb3⟩
        | true =>
         have hXP:X1=placeOk cells locals ⟨op,dst,base,size,index,e,f,mode,to_,line,col⟩:=by rw[HX1.out,hp,if_pos rfl]
         clear hp HX1 HACT
         by_cases hs:size=0
         ·have HXN:Hid (X1=(!decide (base<0)&&!decide (cells-1<base)&&!decide (0<index.length))):=Lib.hid (by rw[hXP,hs,placeOk_zero,show index.isEmpty = !decide (0<index.length) by cases index <;> simp])
          clear hXP HEi
          obtain⟨ka0,ka1,ka2,ka3,ka4,ka5,ka6,ka7,ka8,_,_⟩:=Kit.cells11 (hA5.below' hbz)
          have kp0:w2.cell? ⟨gp,0,none⟩=some (.int .i64 cells):=(hP5.below' hbz).cell 0
          have kt0:w2.cell? ⟨gt,0,none⟩=some (.int .i64 locals):=(hT5.below' hbz).cell 0
          have kt1:w2.cell? ⟨gt,1,none⟩=some (.slice A n c):=(hT5.below' hbz).cell 1
          generalize index.length=L at *
          subst hs
          have hw:IntKind.i64.wrap (cells-1)=cells-1:=by rw[IntKind.wrap_i64];omega
          by_cases h1:base<0
          ·have hx:X1=false:=by rw[HXN.out,decide_eq_true h1];rfl
           clear HXN
           go_wp2_with (first |(go_at_call 72;refine(HPW _).out.mono ?_;rintro e w2 ⟨rfl,rfl⟩) |(go_at_call 73;refine(HEi _ hbw').out.mono ?_;rintro e w3 ⟨rfl,hb3⟩))
           go_ret
           exact⟨Kit.cB (HXF.out hx).symm,by first |(rw[HGA.out];exact hbw) | exact Kit.Below.then (HGA.out.symm ▸ hbw) hb3⟩
          ·by_cases h2:cells-1<base
           ·have hx:X1=false:=by rw[HXN.out,decide_eq_true h2];simp
            clear HXN
            go_wp2_with (first |(go_at_call 72;refine(HPW _).out.mono ?_;rintro e w2 ⟨rfl,rfl⟩) |(go_at_call 73;refine(HEi _ hbw').out.mono ?_;rintro e w3 ⟨rfl,hb3⟩))
            go_ret
            exact⟨Kit.cB (HXF.out hx).symm,by first |(rw[HGA.out];exact hbw) | exact Kit.Below.then (HGA.out.symm ▸ hbw) hb3⟩
           ·by_cases hl:0<L
            ·have g2:(0:Int)<(L:Int):=by omega
             have hx:X1=false:=by rw[HXN.out,decide_eq_true hl];simp
             clear HXN hl
             go_wp2_with (first |(go_at_call 72;refine(HPW _).out.mono ?_;rintro e w2 ⟨rfl,rfl⟩) |(go_at_call 73;refine(HEi _ hbw').out.mono ?_;rintro e w3 ⟨rfl,hb3⟩))
             go_ret
             exact⟨Kit.cB (HXF.out hx).symm,by first |(rw[HGA.out];exact hbw) | exact Kit.Below.then (HGA.out.symm ▸ hbw) hb3⟩
            ·have hx:X1=true:=by rw[HXN.out,decide_eq_false hl,decide_eq_false h1,decide_eq_false h2];rfl
             obtain rfl:L=0:=by omega
             clear HXN hl
             go_wp2_with (first |(go_at_call 72;refine(HPW _).out.mono ?_;rintro e w2 ⟨rfl,rfl⟩) |(go_at_call 73;refine(HEi _ hbw').out.mono ?_;rintro e w3 ⟨rfl,hb3⟩))
             go_meet
             exact⟨hx,by first | exact hbz | exact Kit.Below.then hbz hb3⟩
         ·rw[placeOk_pow hs]at hXP
          have HXN:=Lib.hid hXP
          have HPW:=fun w=>Lib.hid (Power_any size w)
          clear hXP
          obtain⟨ka0,ka1,ka2,ka3,ka4,ka5,ka6,ka7,ka8,_,_⟩:=Kit.cells11 (hA5.below' hbz)
          have kp0:w2.cell? ⟨gp,0,none⟩=some (.int .i64 cells):=(hP5.below' hbz).cell 0
          have kt0:w2.cell? ⟨gt,0,none⟩=some (.int .i64 locals):=(hT5.below' hbz).cell 0
          have kt1:w2.cell? ⟨gt,1,none⟩=some (.slice A n c):=(hT5.below' hbz).cell 1
          have q0:(size == 0)=false:=by simp[hs]
          cases hpw:powB size with
          | false =>
           have hx:X1=false:=by rw[HXN.out,hpw];rfl
           simp only[hpw]at HPW
           clear HXN hpw hs HEi
           go_wp2_with (first |(go_at_call 72;refine(HPW _).out.mono ?_;rintro e w2 ⟨rfl,rfl⟩) |(go_at_call 73;refine(HEi _ hbw').out.mono ?_;rintro e w3 ⟨rfl,hb3⟩))
           go_ret
           exact⟨Kit.cB (HXF.out hx).symm,by first |(rw[HGA.out];exact hbw) | exact Kit.Below.then (HGA.out.symm ▸ hbw) hb3⟩
          | true =>
           have hsz:=powB_range hpw
           have hw:IntKind.i64.wrap (cells-size)=cells-size:=by rw[IntKind.wrap_i64];omega
           have g0:0<size:=by omega
           by_cases h1:base<0
           ·have hx:X1=false:=by rw[HXN.out,decide_eq_true h1];simp
            simp only[hpw]at HPW
            clear HXN hpw hs HEi hsz
            go_wp2_with (first |(go_at_call 72;refine(HPW _).out.mono ?_;rintro e w2 ⟨rfl,rfl⟩) |(go_at_call 73;refine(HEi _ hbw').out.mono ?_;rintro e w3 ⟨rfl,hb3⟩))
            go_ret
            exact⟨Kit.cB (HXF.out hx).symm,by first |(rw[HGA.out];exact hbw) | exact Kit.Below.then (HGA.out.symm ▸ hbw) hb3⟩
           ·by_cases h2:cells-size<base
            ·have hx:X1=false:=by rw[HXN.out,decide_eq_true h2];simp
             simp only[hpw]at HPW
             clear HXN hpw hs HEi hsz
             go_wp2_with (first |(go_at_call 72;refine(HPW _).out.mono ?_;rintro e w2 ⟨rfl,rfl⟩) |(go_at_call 73;refine(HEi _ hbw').out.mono ?_;rintro e w3 ⟨rfl,hb3⟩))
             go_ret
             exact⟨Kit.cB (HXF.out hx).symm,by first |(rw[HGA.out];exact hbw) | exact Kit.Below.then (HGA.out.symm ▸ hbw) hb3⟩
            ·have hXE:X1=exprOk index locals:=by rw[HXN.out,hpw,decide_eq_false h1,decide_eq_false h2];rfl
             simp only[hpw]at HPW
             clear HXN hpw hs hsz
             generalize exprOk index locals=xe at *
             have hbw':=hbw
             cases xe with
             | false =>
              have hx:=hXE
              clear hXE
              go_wp2_with (first |(go_at_call 72;refine(HPW _).out.mono ?_;rintro e w2 ⟨rfl,rfl⟩) |(go_at_call 73;refine(HEi _ hbw').out.mono ?_;rintro e w3 ⟨rfl,hb3⟩))
              go_ret
              exact⟨Kit.cB (HXF.out hx).symm,by first |(rw[HGA.out];exact hbw) | exact Kit.Below.then (HGA.out.symm ▸ hbw) hb3⟩
             | true =>
              have hx:=hXE
              clear hXE
              go_wp2_with (first |(go_at_call 72;refine(HPW _).out.mono ?_;rintro e w2 ⟨rfl,rfl⟩) |(go_at_call 73;refine(HEi _ hbw').out.mono ?_;rintro e w3 ⟨rfl,hb3⟩))
              go_meet
              exact⟨hx,by first | exact hbz | exact Kit.Below.then hbz hb3⟩
      obtain⟨hx1,hbz⟩:=hcut
      rw[hx1]at HACT
      have hbw:=hb5.trans (hbz.mono (Nat.le_of_lt hlt1))
      clear HEi HXF HX1
      clear HPLACED
      replace HACT:=Lib.hid (HACT.out.trans (by simp only[Bool.true_and];exact and_swap _ _ _ _ _))
      go_upto_region 15 with fail
      go_cut [8] (fun s8 wz=>s8=.bool (hasE op)∧Below w5.heap.size w5 wz)
      case first =>
       as_aux_lemma =>
        have ka0:wc.cell? ⟨ga,0,none⟩=some (.int .i64 op):=(hA5.below' hbz).cell 0
        clear HACT
        by_cases o2:op=2
        ·subst o2
         go_wp2_with fail
         go_meet
         exact⟨rfl,hbz⟩
        by_cases o7:op=7
        ·subst o7
         go_wp2_with fail
         go_meet
         exact⟨rfl,hbz⟩
        by_cases o9:op=9
        ·subst o9
         go_wp2_with fail
         go_meet
         exact⟨rfl,hbz⟩
        have HE:Hid (hasE op=true):=Lib.hid (by
         have h:=HOP.out
         have:op=1∨op=3∨op=4∨op=5∨op=6∨op=8∨op=10:=by omega
         rcases this with rfl | rfl | rfl | rfl | rfl | rfl | rfl <;> rfl)
        have q2:(op != 2)=true:=by simp[o2]
        have q7:(op != 7)=true:=by simp[o7]
        have q9:(op != 9)=true:=by simp[o9]
        go_wp2_with fail
        go_meet
        exact⟨by rw[HE.out],hbz⟩
      case rest =>
       as_aux_lemma =>
        obtain⟨rfl,hbz⟩:=hcut
        have hbw:=hb5.trans (hbz.mono (Nat.le_of_lt hlt1))
        obtain⟨E,ce,hve,_⟩:=HA.out.e
        simp only at hve
        subst hve
        obtain⟨F,cf,hvf,_⟩:=HA.out.f
        simp only at hvf
        subst hvf
        have HEe:∀w2,Below ga w w2→Hid (Calls Tryz.prog 73 #[.slice E e.length ce,.int .i64 locals] w2 fun r w'=>r=.returned (.bool (exprOk e locals))∧Below w2.heap.size w2 w') :=
         fun w2 hb2=>HE1 e E ce w2 HA.out.he (HA.out.e.below (HGA.out.symm ▸ hb2))
        have HEf:∀w2,Below ga w w2→Hid (Calls Tryz.prog 73 #[.slice F f.length cf,.int .i64 locals] w2 fun r w'=>r=.returned (.bool (exprOk f locals))∧Below w2.heap.size w2 w') :=
         fun w2 hb2=>HE1 f F cf w2 HA.out.hf (HA.out.f.below (HGA.out.symm ▸ hb2))
        have HXE:Hid (exprOk e locals=true→0<e.length):=Lib.hid (exprOk_pos e locals)
        have HXF:Hid (exprOk f locals=true→0<f.length):=Lib.hid (exprOk_pos f locals)
        rw[show(!e.isEmpty)=decide (0<e.length) by cases e <;> simp,show(!f.isEmpty)=decide (0<f.length) by cases f <;> simp]at HACT
        clear HA HE1
        generalize exprOk e locals=xe at *
        generalize exprOk f locals=xf at *
        generalize e.length=le at *
        generalize f.length=lf at *
        generalize hasE op=b2 at *
        go_upto_region 16 with fail
        go_cut [142] (fun s142 wz=>s142=.bool (!((b2 == decide (0<le))&&(!b2 || xe)))∧Below w5.heap.size w5 wz)
        case first =>
         as_aux_lemma =>
          have ka5:wc.cell? ⟨ga,5,none⟩=some (.slice E le ce):=(hA5.below' hbz).cell 5
          have kt0:wc.cell? ⟨gt,0,none⟩=some (.int .i64 locals):=(hT5.below' hbz).cell 0
          clear HACT HEf
          cases b2
          ·by_cases hl:0<le
           ·have g2:(0:Int)<(le:Int):=by omega
            have HQ:Hid (decide (0<le)=true):=Lib.hid (decide_eq_true hl)
            go_wp2_with fail
            go_meet
            exact⟨by rw[HQ.out];rfl,hbz⟩
           ·have g2:¬(0:Int)<(le:Int):=by omega
            have HQ:Hid (decide (0<le)=false):=Lib.hid (decide_eq_false hl)
            go_wp2_with fail
            go_meet
            exact⟨by rw[HQ.out];rfl,hbz⟩
          ·cases xe
           ·have hbw':=hbw
            go_wp2_with (go_at_call 73;refine(HEe _ hbw').out.mono ?_;rintro e w3 ⟨rfl,hb3⟩)
            go_meet
            exact⟨by simp,Kit.Below.then hbz hb3⟩
           ·have HQ:Hid (decide (0<le)=true):=Lib.hid (decide_eq_true (HXE.out rfl))
            have hbw':=hbw
            go_wp2_with (go_at_call 73;refine(HEe _ hbw').out.mono ?_;rintro e w3 ⟨rfl,hb3⟩)
            go_meet
            exact⟨by rw[HQ.out];rfl,Kit.Below.then hbz hb3⟩
        case rest =>
         as_aux_lemma =>
          obtain⟨rfl,hbz⟩:=hcut
          have hbw:=hb5.trans (hbz.mono (Nat.le_of_lt hlt1))
          clear HEe
          generalize ((b2 == decide (0<le))&&(!b2 || xe))=x2 at *
          cases x2 with
          | false =>
           go_wp2_with fail
           go_ret
           exact⟨Kit.cB (show false=_ by rw[HACT.out];simp),by rw[HGA.out];exact hbw⟩
          | true =>
           replace HACT:=Lib.hid (HACT.out.trans (Bool.true_and _))
           go_upto_region 18 with fail
           go_cut [164] (fun s164 wz=>s164=.bool (!((hasF op == decide (0<lf))&&(!hasF op || xf)))∧Below w5.heap.size w5 wz)
           case first =>
            as_aux_lemma =>
             have ka0:wc.cell? ⟨ga,0,none⟩=some (.int .i64 op):=(hA5.below' hbz).cell 0
             have ka6:wc.cell? ⟨ga,6,none⟩=some (.slice F lf cf):=(hA5.below' hbz).cell 6
             have kt0:wc.cell? ⟨gt,0,none⟩=some (.int .i64 locals):=(hT5.below' hbz).cell 0
             clear HACT
             by_cases o6:op=6
             ·subst o6
              cases xf
              ·have hbw':=hbw
               go_wp2_with (go_at_call 73;refine(HEf _ hbw').out.mono ?_;rintro e w3 ⟨rfl,hb3⟩)
               go_meet
               exact⟨by simp[hasF],Kit.Below.then hbz hb3⟩
              ·have HQ:Hid (decide (0<lf)=true):=Lib.hid (decide_eq_true (HXF.out rfl))
               have hbw':=hbw
               go_wp2_with (go_at_call 73;refine(HEf _ hbw').out.mono ?_;rintro e w3 ⟨rfl,hb3⟩;have ka0':w3.cell? ⟨ga,0,none⟩=some (.int .i64 6):=(hA5.below' (Kit.Below.then hbz hb3)).cell 0)
               go_meet
               exact⟨by rw[HQ.out];rfl,Kit.Below.then hbz hb3⟩
             ·have HF:Hid (hasF op=false):=Lib.hid (by simp[hasF,o6])
              have q6:(op == 6)=false:=by simp[o6]
              have q6':(op != 6)=true:=by simp[o6]
              by_cases hl:0<lf
              ·have g2:(0:Int)<(lf:Int):=by omega
               have HQ:Hid (decide (0<lf)=true):=Lib.hid (decide_eq_true hl)
               go_wp2_with fail
               go_meet
               exact⟨by rw[HF.out,HQ.out];rfl,hbz⟩
              ·have g2:¬(0:Int)<(lf:Int):=by omega
               have HQ:Hid (decide (0<lf)=false):=Lib.hid (decide_eq_false hl)
               go_wp2_with fail
               go_meet
               exact⟨by rw[HF.out,HQ.out];rfl,hbz⟩
           case rest =>
            as_aux_lemma =>
             obtain⟨rfl,hbz⟩:=hcut
             have hbw:=hb5.trans (hbz.mono (Nat.le_of_lt hlt1))
             clear HEf
             generalize ((hasF op == decide (0<lf))&&(!hasF op || xf))=x3 at *
             cases x3 with
             | false =>
              go_wp2_with fail
              go_ret
              exact⟨Kit.cB (show false=_ by rw[HACT.out];simp),by rw[HGA.out];exact hbw⟩
             | true =>
              replace HACT:=Lib.hid (HACT.out.trans (Bool.true_and _))
              have ka0:wc.cell? ⟨ga,0,none⟩=some (.int .i64 op):=(hA5.below' hbz).cell 0
              have ka8:wc.cell? ⟨ga,8,none⟩=some (.int .i64 to_):=(hA5.below' hbz).cell 8
              have kt1:wc.cell? ⟨gt,1,none⟩=some (.slice A n c):=(hT5.below' hbz).cell 1
              by_cases o9:op=9
              ·subst o9
               by_cases hd:to_<0
               ·have HT:=Lib.hid (HACT.out.trans (show _=false by rw[show hasTo _=true from rfl,if_pos rfl];exact decide_eq_false (by omega)))
                clear HACT
                have g1:¬(0≤to_):=by omega
                go_wp2_with fail
                go_ret
                exact⟨by rw[HT.out];rfl,by rw[HGA.out];exact hbw⟩
               ·have g1:0≤to_:=by omega
                by_cases hd2:(n:Int)<to_
                ·have HT:=Lib.hid (HACT.out.trans (show _=false by rw[show hasTo _=true from rfl,if_pos rfl];exact decide_eq_false (by omega)))
                 clear HACT
                 have g2:¬(to_≤(n:Int)):=by omega
                 go_wp2_with fail
                 go_ret
                 exact⟨by rw[HT.out];rfl,by rw[HGA.out];exact hbw⟩
                ·have HT:=Lib.hid (HACT.out.trans (show _=true by rw[show hasTo _=true from rfl,if_pos rfl];exact decide_eq_true (by omega)))
                 clear HACT
                 have g2:to_≤(n:Int):=by omega
                 go_wp2_with fail
                 go_ret
                 exact⟨by rw[HT.out];rfl,by rw[HGA.out];exact hbw⟩
              by_cases o10:op=10
              ·subst o10
               by_cases hd:to_<0
               ·have HT:=Lib.hid (HACT.out.trans (show _=false by rw[show hasTo _=true from rfl,if_pos rfl];exact decide_eq_false (by omega)))
                clear HACT
                have g1:¬(0≤to_):=by omega
                go_wp2_with fail
                go_ret
                exact⟨by rw[HT.out];rfl,by rw[HGA.out];exact hbw⟩
               ·have g1:0≤to_:=by omega
                by_cases hd2:(n:Int)<to_
                ·have HT:=Lib.hid (HACT.out.trans (show _=false by rw[show hasTo _=true from rfl,if_pos rfl];exact decide_eq_false (by omega)))
                 clear HACT
                 have g2:¬(to_≤(n:Int)):=by omega
                 go_wp2_with fail
                 go_ret
                 exact⟨by rw[HT.out];rfl,by rw[HGA.out];exact hbw⟩
                ·have HT:=Lib.hid (HACT.out.trans (show _=true by rw[show hasTo _=true from rfl,if_pos rfl];exact decide_eq_true (by omega)))
                 clear HACT
                 have g2:to_≤(n:Int):=by omega
                 go_wp2_with fail
                 go_ret
                 exact⟨by rw[HT.out];rfl,by rw[HGA.out];exact hbw⟩
              have q9:(op == 9)=false:=by simp[o9]
              have q10:(op == 10)=false:=by simp[o10]
              have HT:Hid (actOk cells locals n ⟨op,dst,base,size,index,e,f,mode,to_,line,col⟩=(to_ == 0)):=Lib.hid (by rw[HACT.out];simp[hasTo,o9,o10])
              clear HACT
              by_cases hd:to_=0
              ·subst hd
               go_wp2_with fail
               go_ret
               exact⟨by rw[HT.out];rfl,by rw[HGA.out];exact hbw⟩
              ·have q1:(to_ == 0)=false:=by simp[hd]
               have HQ:=Lib.hid q1
               go_wp2_with fail
               go_ret
               exact⟨by rw[HT.out,HQ.out];rfl,by rw[HGA.out];exact hbw⟩
end Go.Proofs.YtmjilfamjlnigaaGreat.RefW
