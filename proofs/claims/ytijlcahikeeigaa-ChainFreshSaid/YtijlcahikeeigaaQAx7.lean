/- asking's contract lies in its own text. -/
import Derived.Test.YtijlcahikeeigaaTAsking
