/-
  Parts of event.read: the moment in its box.
-/
import Derived.Test.YtnghnjdabbjcnaaGreatDoorVYq
namespace Go.Vm.Seat
variable {B bx:List Box} {v:PV} {M l tl:List Tm} {V:List ZY}
open Go.Proofs
set_option maxRecDepth 100000
theorem ZdV {el:List (List PV)} {L:List Tm} (h:Mut 4 bx v el) (he:el=Za L):(v= .nils∧L= [])∨∃k,v= .own k 4 0 L.length∧bx[k]? = some (.cells 4 (Za L)):=by
 cases h with
 |nil=>left;have:=congrArg List.length he;rw[Zb]at this;exact⟨rfl,List.length_eq_zero_iff.1 this.symm⟩
 |own k _ hk=>right;subst he;exact⟨k,by rw[Zb],hk⟩
theorem Zle {H:Heap} {id:Nat} (h:nth H.bx id=some (.cells 4 (Za M))):YK H (.own id 4 0 M.length)=some (Za M):=by simp only[YK,h];rw[if_pos ⟨trivial,by rw[Zb];omega⟩,List.drop_zero, ← Zb M,List.take_length];exact W8 _
theorem apM {L:List Tm} (y:Tm) (hv:Mut 4 bx v (Za L)) (hl:L.length≤100000):∃bx',ZK E0 30 30 v (.sl .full 4 [y.cells]) ⟨bx,0,[],0⟩=some (.own bx.length 4 0 (L.length+1),⟨bx',0,[],0⟩)∧Mut 4 bx' (.own bx.length 4 0 (L.length+1)) (Za (L++ [y]))∧bx'.length=bx.length+1∧∀(j:Nat) (B:Box),bx[j]? = some B→(∀el,B≠Box.cells 4 el)→bx'[j]? = some B:=by have hok:(Za [y]).all (fun c=>c.all ZL)=true:=Zr _;have hone:Za [y]= [y.cells]:=WD y;rcases ZdV hv rfl with⟨rfl,rfl⟩|⟨k,rfl,hk⟩;{have he:=ZW (s:= .nils) YB (ElV.sl .full 4 (Za [y])) hok rfl rfl ⟨bx,0,[],0⟩;refine⟨bx++ [.cells 4 (Za [y])],?_,?_,by simp,fun j B hj _=>by rw[List.getElem?_append_left (Zz hj)];exact hj⟩;{rw[hone]at he;simp only[ZK,he,YD];rw[if_pos (ZR (by simp) (by decide)),hone];rfl};{have:=Mut.own (es:=4) (bx:=bx++ [.cells 4 (Za [y])]) bx.length (Za [y]) (by simp);rwa [Zb]at this}};{have hnth:nth bx k=some (.cells 4 (Za L)):=(Zm _ _).trans hk;have hs:=Zle (H:=⟨bx,0,[],0⟩) (id:=k) (M:=L) hnth;have he:=ZW (s:= .own k 4 0 L.length) YB (ElV.sl .full 4 (Za [y])) hok rfl rfl ⟨bx,0,[],0⟩;rw[hone]at he;refine⟨bx.set k .dead++ [.cells 4 (Za (L++ [y]))],?_,?_,by simp,fun j B hj hB=>?_⟩;{simp only[ZK,he,YD,WH,hs];rw[if_pos ⟨trivial,Nat.zero_le _,Zb L,ZR (by rw[Zb];simp;omega) (by decide)⟩,Zs,hone,Zb];rfl};{have:=Mut.own (es:=4) (bx:=bx.set k .dead++ [.cells 4 (Za (L++ [y]))]) bx.length (Za (L++ [y])) (by rw[List.getElem?_append_right (by simp)];simp);rwa [Zb,List.length_append]at this};{(have hne:k≠j:=fun e=>by subst e;rw[hk]at hj;exact hB _ (Option.some.inj hj).symm);rw[List.getElem?_append_left (by rw[List.length_set];exact Zz hj),List.getElem?_set_ne hne];exact hj}}
section
variable {L:List Box} {I a b d:Int} {o o5:PV}
abbrev VH (I a b d:Int) (o o5:PV):List PV:=[.int .i64 I,.int .i64 a,.int .i64 b,o,.int .i64 d,o5]
theorem Zqz (h:nth L 2=some (.cells 6 [VH I a b d o o5])):ZZ E0 32 (.ptr 2 6 0 0) ⟨L,0,[],0⟩=some (.agg (VH I a b d o o5)):=
 WT rfl rfl (el:=[VH I a b d o o5]) h rfl rfl
theorem Zr0 (h:nth L 2=some (.cells 6 [VH I a b d o o5])):ZZ E0 30 (.ptr 2 6 0 5) ⟨L,0,[],0⟩=some o5:=by
 have e:E0.T 30=some ⟨.slice 39,1,24,.nils⟩:=by kernel_rfl
 rw[Zm]at h;simp[ZZ,e,Heap.rd,Zm,h,Qe,XL]
theorem Zr6 (h:nth L 2=some (.cells 6 [VH I a b d o o5])):ZZ E0 29 (.ptr 2 6 0 3) ⟨L,0,[],0⟩=some o:=by rw[Zm]at h;simp[ZZ,e29,Heap.rd,Zm,h,Qe,XL]
theorem Zc8 {tm:TM} {q:PV} (h2:tm 2= .ptr 0 6 0 0) (h3:tm 3=q) (hb:nth L 0=some (.cells 6 [VH I a b d o o5])):U0 E0 tm ⟨L,0,[],0⟩ fe25.fn.results.toList=some [.agg (VH I a b d o o5),q]:=by have hl:ZZ E0 32 (.ptr 0 6 0 0) ⟨L,0,[],0⟩=some (.agg (VH I a b d o o5)):=WT rfl rfl (el:=[VH I a b d o o5]) hb rfl rfl;have e:fe25.fn.results.toList= [.cell 2 32,.tmp 3]:=rfl;rw[e];simp only[U0,h2,hl,h3]
theorem Zqu {r:List PV} (h:nth L 0=some (.cells 6 [r])) (hr:r.length=6):Heap.wr ⟨L,0,[],0⟩ (.ptr 0 6 0 0) (VH I a b d o o5)=some ⟨L.set 0 (.cells 6 [VH I a b d o o5]),0,[],0⟩:=by have h9:=U6 (H:=⟨L,0,[],0⟩) (id:=0) (es:=6) (ix:=0) (off:=0) (el:=[r]) (cs:=VH I a b d o o5) (old:=r) h rfl (by rw[hr];exact Nat.le_refl 6) (Nat.zero_le _);have h8:List.drop 6 r= []:=List.drop_eq_nil_of_le (by omega);rw[h9];simp[h8]
theorem ZsH (h:nth L 2=some (.cells 6 [VH I a b d o o5])) (q:PV):Heap.wr ⟨L,0,[],0⟩ (.ptr 2 6 0 5) [q]=some ⟨L.set 2 (.cells 6 [VH I a b d o q]),0,[],0⟩:=by have h9:=U6 (H:=⟨L,0,[],0⟩) (id:=2) (es:=6) (ix:=0) (off:=5) (el:=[VH I a b d o o5]) (cs:=[q]) (old:=VH I a b d o o5) h rfl (Nat.le_refl 6) (Nat.zero_le _);rw[h9];rfl
theorem ZrM {n:Nat} (x z:Tm) (h:nth L n=some (.cells 4 (Za (M++ [z])))):Heap.wr ⟨L,0,[],0⟩ (.ptr n 4 M.length 0) x.cells=some ⟨L.set n (.cells 4 (Za (M++ [x]))),0,[],0⟩:=by
 have hz:nth (Za (M++ [z])) M.length=some z.cells:=by rw[Zm,Zs,List.getElem?_append_right (by rw[Zb];exact Nat.le_refl _),Zb,Nat.sub_self,WD];rfl
 obtain⟨k1,n1,s1,b1,l1⟩:=x;obtain⟨k2,n2,s2,b2,l2⟩:=z;have h9:=U6 (H:=⟨L,0,[],0⟩) (id:=n) (es:=4) (ix:=M.length) (off:=0) (el:=Za (M++ [.mk k2 n2 s2 b2 l2])) (cs:=(Tm.mk k1 n1 s1 b1 l1).cells) (old:=(Tm.mk k2 n2 s2 b2 l2).cells) h hz (Nat.le_refl 4) (Nat.zero_le _);rw[h9];have e:(Za (M++ [Tm.mk k2 n2 s2 b2 l2])).set M.length (Tm.mk k1 n1 s1 b1 l1).cells=Za (M++ [.mk k1 n1 s1 b1 l1]):=by rw[Zs,Zs,List.set_append_right _ _ (by rw[Zb];exact Nat.le_refl _),Zb,Nat.sub_self,WD,WD];rfl
 simp only[← e];simp[Tm.cells]
theorem ZsL (bx:List Box) (x:Tm):Heap.wr ⟨bx++ [.cells 4 [zcQ]],0,[],0⟩ (.ptr bx.length 4 0 0) x.cells=some ⟨bx++ [.cells 4 [x.cells]],0,[],0⟩:=by obtain⟨k',nm',s',b',kz'⟩:=x;have h:=U6 (H:=⟨bx++ [.cells 4 [zcQ]],0,[],0⟩) (id:=bx.length) (es:=4) (ix:=0) (off:=0) (el:=[zcQ]) (cs:=(Tm.mk k' nm' s' b' kz').cells) (old:=zcQ) (XJ _ _) rfl (Nat.le_refl 4) (Nat.zero_le _);rw[h];simp[Tm.cells,zcQ]
theorem Zr7 (bx:List Box) (x:Tm):ZZ E0 39 (.ptr bx.length 4 0 0) ⟨bx++ [.cells 4 [x.cells]],0,[],0⟩=some (.agg x.cells):=by obtain⟨k',nm',s',b',kz'⟩:=x;exact WT rfl rfl (el:=[(Tm.mk k' nm' s' b' kz').cells]) (XJ _ _) rfl rfl
end
inductive OwT (B:List Box):PV→List Tm→Prop
 |nil:OwT B .nils []
 |own (k:Nat) (l:List Tm) (h:nth B k=some (.cells 4 (Za l))) (hne:l≠ []):OwT B (.own k 4 0 l.length) l
theorem OwT.mut (h:OwT B v l):Mut 4 B v (Za l):=by
 cases h with
 |nil=>exact .nil
 |own k _ h hne=>have:=Mut.own (es:=4) (bx:=B) k (Za l) (by rw[← Zm];exact h);rwa [Zb]at this
theorem OwT.frz (h:OwT B v l):frzC 0 ⟨B,0,[],0⟩ v=some (slV true 4 (Za l)):=by
 cases h with
 |nil=>rw[Za,Zi];rfl
 |own k _ h hne=>
  have e:slV true 4 (Za l)= .sl .none 4 (Za l):=by
   cases l with
   | nil=>exact absurd rfl hne
   | cons x r=>rw[Ys];exact Zp _ _ _ _
  rw[e];simp only[frzC,h,Nat.not_lt_zero,if_false,true_and];rw[if_pos (by rw[Zb];omega),List.drop_zero, ← Zb l,List.take_length,WC]
theorem OwT.set0 (h:OwT B v l) {r:List (List PV)} (hB:nth B 0=some (.cells 6 r)) (ext:List Box) (X:Box):OwT ((B++ext).set 0 X) v l:=by
 cases h with
 |nil=>exact .nil
 |own k _ h hne=>
  have hk:k≠0:=fun e=>by subst e;rw[hB]at h;cases h
  refine .own k _ ?_ hne;rw[Zm]at h ⊢;obtain⟨hlt, -⟩:=List.getElem?_eq_some_iff.1 h;rw[List.getElem?_set_ne (Ne.symm hk),List.getElem?_append_left hlt,h]
theorem Zia {o5 o:PV} (h5:OwT B o5 tl) (ho:∀H,frzC 0 H o=some (slV true 1 (ZD V))) (k a b d:Int):Wu 0 ⟨B,0,[],0⟩ [.agg [.int .i64 k,.int .i64 a,.int .i64 b,o,.int .i64 d,o5]]=some [.agg (Mo.mk k a b true V d true tl).cells]:=by
 have h2:frz2 0 ⟨B,0,[],0⟩ (.agg [.int .i64 k,.int .i64 a,.int .i64 b,o,.int .i64 d,o5])=some (.agg (Mo.mk k a b true V d true tl).cells):=by show(match Wr 0 ⟨B,0,[],0⟩ [.int .i64 k,.int .i64 a,.int .i64 b,o,.int .i64 d,o5] with|some cs'=>some (PV.agg cs')|none=>none)=_;simp only[Wr,ho,h5.frz];rfl
 simp only[Wu,h2]
theorem Zfn {o5 o:PV} (h5:OwT B o5 tl) (ho:∀H,frzC 0 H o=some (slV true 1 (ZD V))) (k a b d:Int) (ok:Bool):frz3 0 ⟨B,0,[],0⟩ (.tup [.agg [.int .i64 k,.int .i64 a,.int .i64 b,o,.int .i64 d,o5],.bool ok])=some (.tup [.agg (Mo.mk k a b true V d true tl).cells,.bool ok]):=by
 have h2:frz2 0 ⟨B,0,[],0⟩ (.agg [.int .i64 k,.int .i64 a,.int .i64 b,o,.int .i64 d,o5])=some (.agg (Mo.mk k a b true V d true tl).cells):=by show(match Wr 0 ⟨B,0,[],0⟩ [.int .i64 k,.int .i64 a,.int .i64 b,o,.int .i64 d,o5] with|some cs'=>some (PV.agg cs')|none=>none)=_;simp only[Wr,ho,h5.frz];rfl
 rw[Xu];simp only[Wu,h2];rfl
