/-
  Texts of this seat, put together by bundle.py.
-/
import Derived.SizedLaws
import Derived.ChangeSlices
